/- disk: a change done: put at the end, fill, move of one. -/
import Derived.Test.YtfogfkikkekmkaaDoorDiskRows
set_option linter.unusedVariables false
set_option linter.unusedSimpArgs false
namespace Go.Proofs.YtfogfkikkekmkaaDoor.DiskDone
open Go.RowKit Go.Proofs.YtfogfkikkekmkaaDoorW.PrintWords Go.Proofs.YtfogfkikkekmkaaDoorW.PrintLast Go.Proofs.YtfogfkikkekmkaaDoorW.PrintMore Go.Proofs.YtfogfkikkekmkaaDoor.NameWalk Go.Proofs.YtfogfkikkekmkaaDoor.Item Go.Proofs.YtfogfkikkekmkaaDoor.DiskAt Go.Proofs.YtfogfkikkekmkaaDoor.DiskSmall Go.Proofs.YtfogfkikkekmkaaDoor.DiskRows

/-- What a row's work leaves: the row, and all but it. -/
def RowPost (n : Nat) (W w' : World) (v v1 : Value) (s1 : List It) : Prop :=
  itemK.R 57 w' n (fun _ => True) v1 s1 ∧ W.grownBy w' v.ownBlock ∧ (v1.ownBlock = v.ownBlock ∨ ∃ b, v1.ownBlock = some b ∧ W.heap.size ≤ b)
theorem RowPost.pre {n : Nat} {W W1 w' : World} {v v1 : Value} {s1 : List It} (hb : Below W.heap.size W W1) (h : RowPost n W1 w' v v1 s1) : RowPost n W w' v v1 s1 :=
  ⟨h.1, grown_trans ⟨hb.os, hb.tape, hb.output, hb.size, fun k hk _ => hb.block k hk⟩ h.2.1, h.2.2.imp id (fun ⟨b, h1, h2⟩ => ⟨b, h1, Nat.le_trans hb.size h2⟩)⟩
set_option maxHeartbeats 4000000 in
set_option maxRecDepth 100000 in
theorem done_put (n : Nat) (v : Value) (s : List It) (pa tp : ByteArray) (kd mo ui gi mt at_ : Int) (da : ByteArray) (su : Bool) (W : World) (hg : Glob W) (h : itemK.R 57 W n (fun _ => True) v s) (hn : n ≤ W.heap.size) (hs : s.length ≤ 1000000) (hss : ∀ x ∈ s, x.1.size < 4294967281) (hp : pa.size < 4294967281)
    (h0 : hereP s pa = false) (h1 : placeP s pa = s.length) :
    Calls Tryd.prog 43 #[v, .agg #[.int .i64 0, .string pa, .string tp, .int .i64 kd, .int .u32 mo, .int .u32 ui, .int .u32 gi, .int .i64 mt, .int .i64 at_, .string da, .bool su]] W fun e w' => ∃ v1, e = .returned v1 ∧ RowPost n W w' v v1 (s ++ [(pa, kd, mo, ui, gi, mt, at_, da)]) := by
  obtain ⟨A, c, rfl, hcap, hC⟩ := Kd.R_reads h
  have hb1 := below_one W (.cells #[.int .i64 0, .string pa, .string tp, .int .i64 kd, .int .u32 mo, .int .u32 ui, .int .u32 gi, .int .i64 mt, .int .i64 at_, .string da, .bool su] 71)
  have HC := Lib.hid (at_any s A c pa _ (hg.below hb1) (Kd.C_below hC hb1) hs hss hp)
  rw [h0, h1] at HC
  have HB1 := Lib.hid hb1
  have HK1 := Lib.hid (heap_new W (.cells #[.int .i64 0, .string pa, .string tp, .int .i64 kd, .int .u32 mo, .int .u32 ui, .int .u32 gi, .int .i64 mt, .int .i64 at_, .string da, .bool su] 71))
  have k1 : (W.alloc (.cells #[.int .i64 0, .string pa, .string tp, .int .i64 kd, .int .u32 mo, .int .u32 ui, .int .u32 gi, .int .i64 mt, .int .i64 at_, .string da, .bool su] 71)).cell? ⟨W.heap.size, 1, none⟩ = some (.string pa) := by rw [cell_of (heap_new W _)]; rfl
  have HR := Lib.hid h
  clear h hC h0 h1 hg hss hb1
  go_enter Tryd.func43, Tryd.ntmps43
  go_wp2_with fail
  generalize W.alloc (.cells #[.int .i64 0, .string pa, .string tp, .int .i64 kd, .int .u32 mo, .int .u32 ui, .int .u32 gi, .int .i64 mt, .int .i64 at_, .string da, .bool su] 71) = W1 at *
  generalize hbb : W.heap.size = bb at HK1 k1 ⊢
  refine HC.out.mono ?_
  rintro e W2 ⟨rfl, hb2⟩
  have HB2 := Lib.hid (below_next HB1.out hb2)
  have HK := (hb2.block bb (Array.getElem?_eq_some_iff.1 HK1.out).1).trans HK1.out
  have HR2 := Lib.hid (Kd.R_below HR.out HB2.out)
  clear hb2 k1 HC HB1 HK1
  have k0 : W2.cell? ⟨bb, 0, none⟩ = some (.int .i64 0) := by rw [cell_of HK]; rfl
  have k1 : W2.cell? ⟨bb, 1, none⟩ = some (.string pa) := by rw [cell_of HK]; rfl
  have k2 : W2.cell? ⟨bb, 2, none⟩ = some (.string tp) := by rw [cell_of HK]; rfl
  have k3 : W2.cell? ⟨bb, 3, none⟩ = some (.int .i64 kd) := by rw [cell_of HK]; rfl
  have k4 : W2.cell? ⟨bb, 4, none⟩ = some (.int .u32 mo) := by rw [cell_of HK]; rfl
  have k5 : W2.cell? ⟨bb, 5, none⟩ = some (.int .u32 ui) := by rw [cell_of HK]; rfl
  have k6 : W2.cell? ⟨bb, 6, none⟩ = some (.int .u32 gi) := by rw [cell_of HK]; rfl
  have k7 : W2.cell? ⟨bb, 7, none⟩ = some (.int .i64 mt) := by rw [cell_of HK]; rfl
  have k8 : W2.cell? ⟨bb, 8, none⟩ = some (.int .i64 at_) := by rw [cell_of HK]; rfl
  have k9 : W2.cell? ⟨bb, 9, none⟩ = some (.string da) := by rw [cell_of HK]; rfl
  have k10 : W2.cell? ⟨bb, 10, none⟩ = some (.bool su) := by rw [cell_of HK]; rfl

  clear HK
  have hb3 := below_one W2 (.cells #[.string pa, .int .i64 kd, .int .u32 mo, .int .u32 ui, .int .u32 gi, .int .i64 mt, .int .i64 at_, .string da] 57)
  have HB3 := Lib.hid (below_next HB2.out hb3)
  have HI := Lib.hid (insert_end n (.slice A s.length c) s (pa, kd, mo, ui, gi, mt, at_, da) ⟨W2.heap.size, 0, none⟩ 1 _ (Kd.R_below HR2.out hb3) (one_reads (fun j u hu => by rw [cell_of (heap_new W2 _)]; rw [← hu]; simp)) (by have := HB3.out.size; omega) hs)
  clear hb3
  go_wp2_with fail
  refine HI.out.mono ?_
  rintro e W4 ⟨v1, rfl, ho, hg4, hat⟩
  have HP := Lib.hid (RowPost.pre (v := .slice A s.length c) HB3.out ⟨ho, hg4, hat⟩)
  clear ho hg4 hat HI
  go_wp2
  go_ret
  exact ⟨_, rfl, HP.out⟩
theorem own_put {W : World} {n g c k j : Nat} {ok : Nat → Prop} {s : List It} {u : Value} {y : It} (h : itemK.R 57 W n ok (.slice (some ⟨g, 0, none⟩) s.length c) s) (hk : k < s.length) (hj : j < 8) (hy : cellsI y = (cellsI s[k]).set j u) :
    itemK.R 57 (W.setCell ⟨g, k * 8 + j, none⟩ u) n ok (.slice (some ⟨g, 0, none⟩) s.length c) (s.set k y) ∧ W.grownBy (W.setCell ⟨g, k * 8 + j, none⟩ u) (some g) ∧ W.frozen? ⟨g, k * 8 + j, none⟩ = false := by
  obtain ⟨hok, inner, ⟨hil, hown⟩, hr⟩ := h
  rcases hown with ⟨e, _⟩ | ⟨g', cap, cur, e, hb, hh, h1, h2, h3, h4⟩
  · cases e
  · injection e with e1 e2 e3
    injection e1 with e1
    injection e1 with e1
    subst e1 e3
    have hil' : inner.length = s.length * 8 := hil
    have hbase : ∀ q p, s[q]? = some p → (inner.drop (q * 8)).take 8 = cellsI p := fun q p hq => itemK_K (itemK.K_of_M (hr.2 q p hq))
    refine ⟨⟨hok, inner.set (k * 8 + j) u, ⟨?_, .inr ⟨g, c, cur.setIfInBounds (k * 8 + j) u, by rw [List.length_set], hb, blk_set hh _ u, by rw [List.length_set]; exact h1, h2, by rw [Array.size_setIfInBounds]; exact h3, ?_⟩⟩, ?_, fun q p hq => ?_⟩, set_grown _ _ _ _, frozen_of hh _⟩
    · rw [List.length_set, List.length_set]; exact hil
    · have h4' : cur.toList.take (s.length * 8) = inner := h4
      show (cur.setIfInBounds (k * 8 + j) u).toList.take ((s.set k y).length * 8) = _
      rw [List.length_set, Array.toList_setIfInBounds, List.take_set, h4']
    · show (inner.set (k * 8 + j) u).length = (s.set k y).length * 8
      rw [List.length_set, List.length_set]; exact hil'
    · have hcs : ((inner.set (k * 8 + j) u).drop (q * 8)).take 8 = cellsI p := by
        rw [List.getElem?_set] at hq
        by_cases hqk : k = q
        · subst hqk
          rw [if_pos rfl, if_pos hk] at hq
          injection hq with hq
          subst hq
          rw [List.drop_set, if_neg (by omega), List.take_set, show k * 8 + j - k * 8 = j by omega, hbase k _ (List.getElem?_eq_getElem hk), hy]
        · rw [if_neg hqk] at hq
          rw [← hbase q p hq, List.drop_set]
          by_cases hlt : k * 8 + j < q * 8
          · rw [if_pos hlt]
          · rw [if_neg hlt, List.take_set, List.set_eq_of_length_le (by rw [List.length_take]; omega)]
      show itemK.M _ _ _ p (((inner.set (k * 8 + j) u).drop (q * 8)).take 8)
      rw [hcs]
      exact itemK_M _ _ _ _
set_option maxHeartbeats 4000000 in
set_option maxRecDepth 100000 in
theorem done_fill (n : Nat) (v : Value) (s : List It) (pa tp : ByteArray) (kd mo ui gi mt at_ : Int) (da : ByteArray) (su : Bool) (W : World) (hg : Glob W) (h : itemK.R 57 W n (fun _ => True) v s) (hs : s.length ≤ 1000000) (hss : ∀ x ∈ s, x.1.size < 4294967281) (hp : pa.size < 4294967281)
    (h0 : hereP s pa = true) (h1 : placeP s pa < s.length) (y : It) (hy : cellsI y = (cellsI s[placeP s pa]).set 7 (.string da)) :
    Calls Tryd.prog 43 #[v, .agg #[.int .i64 1, .string pa, .string tp, .int .i64 kd, .int .u32 mo, .int .u32 ui, .int .u32 gi, .int .i64 mt, .int .i64 at_, .string da, .bool su]] W fun e w' => ∃ v1, e = .returned v1 ∧ RowPost n W w' v v1 (s.set (placeP s pa) y) := by
  obtain ⟨A, c, rfl, hcap, hC⟩ := Kd.R_reads h
  have hb1 := below_one W (.cells #[.int .i64 1, .string pa, .string tp, .int .i64 kd, .int .u32 mo, .int .u32 ui, .int .u32 gi, .int .i64 mt, .int .i64 at_, .string da, .bool su] 71)
  have HC := Lib.hid (at_any s A c pa _ (hg.below hb1) (Kd.C_below hC hb1) hs hss hp)
  rw [h0] at HC
  obtain ⟨g, rfl⟩ : ∃ g, A = some ⟨g, 0, none⟩ := by
    obtain ⟨inner, hl, hown⟩ := Kd.R_own h
    rcases hown with ⟨hv, h0⟩ | ⟨g, cap, cur, hv, _⟩
    · omega
    · injection hv with hv _ _
      exact ⟨g, hv⟩
  have HY := Lib.hid hy
  clear h0 hy
  generalize placeP s pa = r at *
  have hrI : (r : Int) < (s.length : Int) := by omega
  have HB1 := Lib.hid hb1
  have HK1 := Lib.hid (heap_new W (.cells #[.int .i64 1, .string pa, .string tp, .int .i64 kd, .int .u32 mo, .int .u32 ui, .int .u32 gi, .int .i64 mt, .int .i64 at_, .string da, .bool su] 71))
  have k1 : (W.alloc (.cells #[.int .i64 1, .string pa, .string tp, .int .i64 kd, .int .u32 mo, .int .u32 ui, .int .u32 gi, .int .i64 mt, .int .i64 at_, .string da, .bool su] 71)).cell? ⟨W.heap.size, 1, none⟩ = some (.string pa) := by rw [cell_of (heap_new W _)]; rfl
  have HR := Lib.hid h
  have HCC := Lib.hid hC
  clear h hC hg hss hb1
  go_enter Tryd.func43, Tryd.ntmps43
  go_wp2_with fail
  generalize W.alloc (.cells #[.int .i64 1, .string pa, .string tp, .int .i64 kd, .int .u32 mo, .int .u32 ui, .int .u32 gi, .int .i64 mt, .int .i64 at_, .string da, .bool su] 71) = W1 at *
  generalize hbb : W.heap.size = bb at HK1 k1 ⊢
  refine HC.out.mono ?_
  rintro e W2 ⟨rfl, hb2⟩
  have HB2 := Lib.hid (below_next HB1.out hb2)
  have HK := (hb2.block bb (Array.getElem?_eq_some_iff.1 HK1.out).1).trans HK1.out
  have HR2 := Lib.hid (Kd.R_below HR.out HB2.out)
  obtain ⟨ad, hade, _, _, _, _, _, _, _, e7⟩ := item_at (Kd.C_below HCC.out HB2.out) h1
  injection hade with hade
  subst hade
  have hadd : (⟨g, 0, none⟩ : Addr).add (r * 8) = ⟨g, r * 8, none⟩ := by rw [Addr.add_lit, Nat.zero_add]
  rw [hadd] at e7
  have HPT := own_put (j := 7) HR2.out h1 (by decide) HY.out
  have z7 := HPT.2.2
  have HPT := Lib.hid HPT
  clear hb2 k1 HC HB1 HK1 HCC
  have k0 : W2.cell? ⟨bb, 0, none⟩ = some (.int .i64 1) := by rw [cell_of HK]; rfl
  have k1 : W2.cell? ⟨bb, 1, none⟩ = some (.string pa) := by rw [cell_of HK]; rfl
  have k2 : W2.cell? ⟨bb, 2, none⟩ = some (.string tp) := by rw [cell_of HK]; rfl
  have k3 : W2.cell? ⟨bb, 3, none⟩ = some (.int .i64 kd) := by rw [cell_of HK]; rfl
  have k4 : W2.cell? ⟨bb, 4, none⟩ = some (.int .u32 mo) := by rw [cell_of HK]; rfl
  have k5 : W2.cell? ⟨bb, 5, none⟩ = some (.int .u32 ui) := by rw [cell_of HK]; rfl
  have k6 : W2.cell? ⟨bb, 6, none⟩ = some (.int .u32 gi) := by rw [cell_of HK]; rfl
  have k7 : W2.cell? ⟨bb, 7, none⟩ = some (.int .i64 mt) := by rw [cell_of HK]; rfl
  have k8 : W2.cell? ⟨bb, 8, none⟩ = some (.int .i64 at_) := by rw [cell_of HK]; rfl
  have k9 : W2.cell? ⟨bb, 9, none⟩ = some (.string da) := by rw [cell_of HK]; rfl
  have k10 : W2.cell? ⟨bb, 10, none⟩ = some (.bool su) := by rw [cell_of HK]; rfl

  clear HK
  go_wp2
  go_ret
  exact ⟨_, rfl, RowPost.pre (v := .slice (some ⟨g, 0, none⟩) s.length c) HB2.out ⟨HPT.out.1, HPT.out.2.1, .inl rfl⟩⟩
set_option maxHeartbeats 8000000 in
set_option maxRecDepth 100000 in
theorem done_move (W0 : World) (hg0 : Glob W0) (g c : Nat) (s : List It) (pa tp : ByteArray) (kd mo ui gi mt at_ : Int) (da : ByteArray) (su : Bool) (W : World) (hb0 : Below W0.heap.size W0 W) (h : itemK.R 57 W W0.heap.size (fun _ => True) (.slice (some ⟨g, 0, none⟩) s.length c) s) (hs : s.length ≤ 1000000) (hss : ∀ x ∈ s, x.1.size < 4294967281) (hp : pa.size < 4294967281) (hp2 : tp.size < 4294967281)
    (r : Nat) (hr : placeP s pa = r) (h0 : hereP s pa = true) (h1 : r < s.length) (hne : (pa.toList == tp.toList) = false) (px : ByteArray) (kx mx ux gx tx ax : Int) (dx : ByteArray) (hx : s[r] = (px, kx, mx, ux, gx, tx, ax, dx)) (h2 : hereP (s.eraseIdx r) tp = false) (h3 : placeP (s.eraseIdx r) tp = (s.eraseIdx r).length) :
    Calls Tryd.prog 43 #[.slice (some ⟨g, 0, none⟩) s.length c, .agg #[.int .i64 3, .string pa, .string tp, .int .i64 kd, .int .u32 mo, .int .u32 ui, .int .u32 gi, .int .i64 mt, .int .i64 at_, .string da, .bool su]] W fun e w' => ∃ v1, e = .returned v1 ∧ RowPost W0.heap.size W w' (.slice (some ⟨g, 0, none⟩) s.length c) v1 (s.eraseIdx r ++ [(tp, kx, mx, ux, gx, tx, ax, dx)]) := by
  obtain ⟨A, c', he, hcap, hC⟩ := Kd.R_reads h
  injection he with e1 e2 e3
  subst e1 e3
  have hb1 := below_one W (.cells #[.int .i64 3, .string pa, .string tp, .int .i64 kd, .int .u32 mo, .int .u32 ui, .int .u32 gi, .int .i64 mt, .int .i64 at_, .string da, .bool su] 71)
  have HC := Lib.hid (at_any s _ c pa _ (hg0.below (hb0.trans (hb1.mono hb0.size))) (Kd.C_below hC hb1) hs hss hp)
  rw [h0, hr] at HC
  have hrI : (r : Int) < (s.length : Int) := by omega
  have HDEL : Hid (∀ W' : World, itemK.R 57 W' W0.heap.size (fun _ => True) (.slice (some ⟨g, 0, none⟩) s.length c) s → W0.heap.size ≤ W'.heap.size → Calls Tryd.prog 69 #[.slice (some ⟨g, 0, none⟩) s.length c, .int .i64 r, .int .i64 (Go.RowKit.wrap64 ((r : Int) + 1))] W' fun e w' => e = .returned (.slice (some ⟨g, 0, none⟩) (s.length - 1) c) ∧ itemK.R 57 w' W0.heap.size (fun _ => True) (.slice (some ⟨g, 0, none⟩) (s.length - 1) c) (s.eraseIdx r) ∧ W'.grownBy w' (some g)) := Lib.hid (fun W' hh hn' => by
    rw [show Go.RowKit.wrap64 ((r : Int) + 1) = (r : Int) + 1 by unfold Go.RowKit.wrap64; omega]
    exact delete_one _ g r c s W' hh h1 hn' hs)
  have HGN := Lib.hid (show W0.heap.size ≤ g from by
    obtain ⟨inner, hown⟩ := Kd.R_own h
    exact own_base hown g rfl)
  have hgl : g < W.heap.size := by
    obtain ⟨inner, hown⟩ := Kd.R_own h
    exact own_lt hown g rfl
  have HDP := Lib.hid (fun (w5 : World) (h5 : itemK.R 57 w5 W0.heap.size (fun _ => True) (.slice (some ⟨g, 0, none⟩) (s.length - 1) c) (s.eraseIdx r)) (hb5 : Below W0.heap.size W0 w5) =>
    done_put W0.heap.size (.slice (some ⟨g, 0, none⟩) (s.length - 1) c) (s.eraseIdx r) tp ⟨#[]⟩ kx mx ux gx tx ax dx false w5 (hg0.below hb5) h5 hb5.size (by rw [List.length_eraseIdx]; split <;> omega) (fun x hx => hss x (List.mem_of_mem_eraseIdx hx)) hp2 h2 h3)
  have HB1 := Lib.hid hb1
  have HK1 := Lib.hid (heap_new W (.cells #[.int .i64 3, .string pa, .string tp, .int .i64 kd, .int .u32 mo, .int .u32 ui, .int .u32 gi, .int .i64 mt, .int .i64 at_, .string da, .bool su] 71))
  have k1 : (W.alloc (.cells #[.int .i64 3, .string pa, .string tp, .int .i64 kd, .int .u32 mo, .int .u32 ui, .int .u32 gi, .int .i64 mt, .int .i64 at_, .string da, .bool su] 71)).cell? ⟨W.heap.size, 1, none⟩ = some (.string pa) := by rw [cell_of (heap_new W _)]; rfl
  have HR := Lib.hid h
  have HCC := Lib.hid hC
  have HX := Lib.hid hx
  have HB0 := Lib.hid hb0
  clear h hC hg0 hss hb1 h0 hr h2 h3 hx hb0
  go_enter Tryd.func43, Tryd.ntmps43
  go_wp2_with fail
  generalize W.alloc (.cells #[.int .i64 3, .string pa, .string tp, .int .i64 kd, .int .u32 mo, .int .u32 ui, .int .u32 gi, .int .i64 mt, .int .i64 at_, .string da, .bool su] 71) = W1 at *
  obtain ⟨bb, hbb⟩ : ∃ bb, bb = W.heap.size := ⟨_, rfl⟩
  rw [← hbb] at HK1 k1 ⊢
  have HBG := Lib.hid (show bb ≠ g by omega)
  clear hbb
  refine HC.out.mono ?_
  rintro e W2 ⟨rfl, hb2⟩
  have HB2 := Lib.hid (below_next HB1.out hb2)
  have HK := (hb2.block bb (Array.getElem?_eq_some_iff.1 HK1.out).1).trans HK1.out
  have HR2 := Lib.hid (Kd.R_below HR.out HB2.out)
  obtain ⟨ad, hade, e0, e1, e2, e3, e4, e5, e6, e7⟩ := item_at (Kd.C_below HCC.out HB2.out) h1
  injection hade with hade
  subst hade
  have hadd : (⟨g, 0, none⟩ : Addr).add (r * 8) = ⟨g, r * 8, none⟩ := by rw [Addr.add_lit, Nat.zero_add]
  rw [HX.out, hadd] at e0 e1 e2 e3 e4 e5 e6 e7
  simp only at e0 e1 e2 e3 e4 e5 e6 e7
  clear hb2 k1 HC HB1 HCC
  have k0 : W2.cell? ⟨bb, 0, none⟩ = some (.int .i64 3) := by rw [cell_of HK]; rfl
  have k1 : W2.cell? ⟨bb, 1, none⟩ = some (.string pa) := by rw [cell_of HK]; rfl
  have k2 : W2.cell? ⟨bb, 2, none⟩ = some (.string tp) := by rw [cell_of HK]; rfl

  have HKK := Lib.hid HK
  clear HK
  have hb3 := below_one W2 (.cells #[.int .i64 kx, .int .u32 mx, .int .u32 ux, .int .u32 gx, .int .i64 tx, .int .i64 ax, .string dx] 25)
  have HB3 := Lib.hid (below_next HB2.out hb3)
  have HR3 := Lib.hid (Kd.R_below HR2.out hb3)
  have HN3 := Lib.hid (heap_new W2 (.cells #[.int .i64 kx, .int .u32 mx, .int .u32 ux, .int .u32 gx, .int .i64 tx, .int .i64 ax, .string dx] 25))
  have HK3 := Lib.hid ((hb3.block bb (Array.getElem?_eq_some_iff.1 HKK.out).1).trans HKK.out)
  have H7G := Lib.hid (show W2.heap.size ≠ g by have := HB2.out.size; omega)
  clear hb3
  go_wp2
  generalize W2.alloc (.cells #[.int .i64 kx, .int .u32 mx, .int .u32 ux, .int .u32 gx, .int .i64 tx, .int .i64 ax, .string dx] 25) = W3 at *
  generalize W2.heap.size = b7 at *
  have HR4 : Hid (itemK.R 57 W3.drew W0.heap.size (fun _ => True) (.slice (some ⟨g, 0, none⟩) s.length c) s) := Lib.hid (Kd.R_below HR3.out (below_drew (Below.refl _ _)))
  have HB4 : Hid (Below W0.heap.size W0 W3.drew) := Lib.hid (below_drew (HB0.out.trans (HB3.out.mono HB0.out.size)))
  have hn4 : W0.heap.size ≤ W3.drew.heap.size := HB4.out.size
  have HG4 : Hid (W.grownBy W3.drew (some g)) := Lib.hid (by
    have hb := below_drew HB3.out
    exact ⟨hb.os, hb.tape, hb.output, hb.size, fun k hk _ => hb.block k hk⟩)
  have p0 : W3.drew.cell? ⟨bb, 2, none⟩ = some (.string tp) := by show W3.cell? _ = _; rw [cell_of HK3.out]; rfl
  have p1 : W3.drew.cell? ⟨b7, 0, none⟩ = some (.int .i64 kx) := by show W3.cell? _ = _; rw [cell_of HN3.out]; rfl
  have p2 : W3.drew.cell? ⟨b7, 1, none⟩ = some (.int .u32 mx) := by show W3.cell? _ = _; rw [cell_of HN3.out]; rfl
  have p3 : W3.drew.cell? ⟨b7, 2, none⟩ = some (.int .u32 ux) := by show W3.cell? _ = _; rw [cell_of HN3.out]; rfl
  have p4 : W3.drew.cell? ⟨b7, 3, none⟩ = some (.int .u32 gx) := by show W3.cell? _ = _; rw [cell_of HN3.out]; rfl
  have p5 : W3.drew.cell? ⟨b7, 4, none⟩ = some (.int .i64 tx) := by show W3.cell? _ = _; rw [cell_of HN3.out]; rfl
  have p6 : W3.drew.cell? ⟨b7, 5, none⟩ = some (.int .i64 ax) := by show W3.cell? _ = _; rw [cell_of HN3.out]; rfl
  have p7 : W3.drew.cell? ⟨b7, 6, none⟩ = some (.string dx) := by show W3.cell? _ = _; rw [cell_of HN3.out]; rfl
  refine start_ (n := 11) (S := fun w' => w'.cell? ⟨bb, 2, none⟩ = some (.string tp) ∧ w'.cell? ⟨b7, 0, none⟩ = some (.int .i64 kx) ∧ w'.cell? ⟨b7, 1, none⟩ = some (.int .u32 mx) ∧ w'.cell? ⟨b7, 2, none⟩ = some (.int .u32 ux) ∧ w'.cell? ⟨b7, 3, none⟩ = some (.int .u32 gx) ∧ w'.cell? ⟨b7, 4, none⟩ = some (.int .i64 tx) ∧ w'.cell? ⟨b7, 5, none⟩ = some (.int .i64 ax) ∧ w'.cell? ⟨b7, 6, none⟩ = some (.string dx)) (ds := [9]) #[false, false, false, false, false, false, false, false, false, false, false] (by kernel_rfl) rfl rfl ⟨p0, p1, p2, p3, p4, p5, p6, p7⟩ (fun hHeld => ?_)
  generalize W3.drew = W4 at *
  refine pure_ (i := 0) (N := some 69) (v := ?_) (a' := ?_) #[true, false, false, false, false, false, false, false, false, false, false] rfl rfl (by kernel_rfl) (fun _ _ _ h => h) (Or.inl ⟨by rfl, ?_⟩) ?_ ?_
  rotate_left
  · intro w'
    go_simp
    with_reducible rfl
  rotate_left
  · simp only [Act.put, List.setIfInBounds_toArray, List.set_cons_zero, List.set_cons_succ, i64_w, i32_w]
    rfl
  refine pure_ (i := 1) (N := some 70) (v := ?_) (a' := ?_) #[true, true, false, false, false, false, false, false, false, false, false] rfl rfl (by kernel_rfl) (fun _ _ _ h => h) (Or.inl ⟨by rfl, ?_⟩) ?_ ?_
  rotate_left
  · intro w'
    go_simp
    with_reducible rfl
  rotate_left
  · simp only [Act.put, List.setIfInBounds_toArray, List.set_cons_zero, List.set_cons_succ, i64_w, i32_w]
    rfl
  refine pure_ (i := 2) (N := some 71) (v := ?_) (a' := ?_) #[true, true, true, false, false, false, false, false, false, false, false] rfl rfl (by kernel_rfl) (fun _ _ _ h => h) (Or.inl ⟨by rfl, ?_⟩) ?_ ?_
  rotate_left
  · intro w'
    go_simp
    with_reducible rfl
  rotate_left
  · simp only [Act.put, List.setIfInBounds_toArray, List.set_cons_zero, List.set_cons_succ, i64_w, i32_w]
    rfl
  refine pure_ (i := 3) (N := some 72) (v := ?_) (a' := ?_) #[true, true, true, true, false, false, false, false, false, false, false] rfl rfl (by kernel_rfl) (fun _ _ _ h => h) (Or.inl ⟨by rfl, ?_⟩) ?_ ?_
  rotate_left
  · intro w'
    go_simp
    with_reducible rfl
  rotate_left
  · simp only [Act.put, List.setIfInBounds_toArray, List.set_cons_zero, List.set_cons_succ, i64_w, i32_w]
    rfl
  refine pure_ (i := 5) (N := some 74) (v := ?_) (a' := ?_) #[true, true, true, true, false, true, false, false, false, false, false] rfl rfl (by kernel_rfl) (fun _ _ _ h => h) (Or.inl ⟨by rfl, ?_⟩) ?_ ?_
  rotate_left
  · intro w'
    go_simp
    with_reducible rfl
  rotate_left
  · simp only [Act.put, List.setIfInBounds_toArray, List.set_cons_zero, List.set_cons_succ, i64_w, i32_w]
    rfl
  refine take_ (i := 6) (N := some 75) (v := ?_) (a' := ?_) #[true, true, true, true, false, true, true, false, false, false, false] rfl rfl (by kernel_rfl) (fun _ _ _ h => h) (Or.inl ⟨by rfl, ?_⟩) hHeld ?_ ?_
  rotate_left
  · rintro w' ⟨s0, s1, s2, s3, s4, s5, s6, s7⟩
    go_simp
    with_reducible rfl
  rotate_left
  · simp only [Act.put, List.setIfInBounds_toArray, List.set_cons_zero, List.set_cons_succ, i64_w, i32_w]
    rfl
  refine take_ (i := 7) (N := some 76) (v := ?_) (a' := ?_) #[true, true, true, true, false, true, true, true, false, false, false] rfl rfl (by kernel_rfl) (fun _ _ _ h => h) (Or.inl ⟨by rfl, ?_⟩) hHeld ?_ ?_
  rotate_left
  · rintro w' ⟨s0, s1, s2, s3, s4, s5, s6, s7⟩
    go_simp
    with_reducible rfl
  rotate_left
  · simp only [Act.put, List.setIfInBounds_toArray, List.set_cons_zero, List.set_cons_succ, i64_w, i32_w]
    rfl
  refine pure_ (i := 8) (N := some 77) (v := ?_) (a' := ?_) #[true, true, true, true, false, true, true, true, true, false, false] rfl rfl (by kernel_rfl) (fun _ _ _ h => h) (Or.inl ⟨by rfl, ?_⟩) ?_ ?_
  rotate_left
  · intro w'
    go_simp
    with_reducible rfl
  rotate_left
  · simp only [Act.put, List.setIfInBounds_toArray, List.set_cons_zero, List.set_cons_succ, i64_w, i32_w]
    rfl
  refine one_ (i := 4) (N := some 73) #[true, true, true, true, true, true, true, true, true, false, false] rfl rfl (by kernel_rfl) (by decide) (fun K hK => ?_)
  refine goes_ Tryd.func69 (by kernel_rfl) rfl #[.slice (some ⟨g, 0, none⟩) s.length c, .int .i64 r, .int .i64 (Go.RowKit.wrap64 ((r : Int) + 1))] (by rfl) rfl rfl (by simp only [List.map_toArray, List.map_cons, List.map_nil]; rfl) ?_
  with_reducible refine (HDEL.out _ HR4.out hn4).mono ?_
  rintro e w5 ⟨rfl, ho5, hg5⟩
  refine ⟨_, rfl, ?_⟩
  have HO5 := Lib.hid ho5
  have HG5 := Lib.hid (grown_trans HG4.out hg5)
  have HB5 := Lib.hid (below_grown HB4.out (Nat.le_refl _) hg5 (fun x hx => by injection hx with hx; have := HGN.out; omega))
  have q0 := cell_grown hg5 p0 (by intro e; injection e with e; exact HBG.out e)
  have q1 := cell_grown hg5 p1 (by intro e; injection e with e; exact H7G.out e)
  have q2 := cell_grown hg5 p2 (by intro e; injection e with e; exact H7G.out e)
  have q3 := cell_grown hg5 p3 (by intro e; injection e with e; exact H7G.out e)
  have q4 := cell_grown hg5 p4 (by intro e; injection e with e; exact H7G.out e)
  have q5 := cell_grown hg5 p5 (by intro e; injection e with e; exact H7G.out e)
  have q6 := cell_grown hg5 p6 (by intro e; injection e with e; exact H7G.out e)
  have q7 := cell_grown hg5 p7 (by intro e; injection e with e; exact H7G.out e)
  clear hg5 ho5
  refine hK.out _ _ ⟨q0, q1, q2, q3, q4, q5, q6, q7⟩ (fun hHeld => ?_)
  clear hK K
  refine norm_ (a' := ?_) ?_ ?_
  rotate_left
  · show Act.put _ (some 73) _ = _
    simp only [Act.put, List.setIfInBounds_toArray, List.set_cons_zero, List.set_cons_succ, i64_w, i32_w]
    rfl
  refine last_ (i := 9) (N := some 78) #[true, true, true, true, true, true, true, true, true, true, false] rfl rfl (by kernel_rfl) (by decide) (fun K hK => ?_)
  refine goes_ Tryd.func43 (by kernel_rfl) rfl #[.slice (some ⟨g, 0, none⟩) (s.length - 1) c, .agg #[.int .i64 0, .string tp, .string ⟨#[]⟩, .int .i64 kx, .int .u32 mx, .int .u32 ux, .int .u32 gx, .int .i64 tx, .int .i64 ax, .string dx, .bool false]] (by rfl) rfl rfl (by simp only [List.map_toArray, List.map_cons, List.map_nil]; rfl) ?_
  with_reducible refine (HDP.out w5 HO5.out HB5.out).mono ?_
  rintro e w6 ⟨v1, rfl, hp6⟩
  refine ⟨_, rfl, ?_⟩
  have HP6 := Lib.hid hp6
  clear hp6
  refine hK.out _ _ ?_
  clear hK K
  refine norm_ (a' := ?_) ?_ ?_
  rotate_left
  · show Act.put _ (some 78) _ = _
    simp only [Act.put, List.setIfInBounds_toArray, List.set_cons_zero, List.set_cons_succ, i64_w, i32_w]
    rfl
  refine pure_ (i := 10) (N := some 4) (v := ?_) (a' := ?_) #[true, true, true, true, true, true, true, true, true, true, true] rfl rfl (by kernel_rfl) (fun _ _ _ h => h) (Or.inl ⟨by rfl, ?_⟩) ?_ ?_
  rotate_left
  · intro w'
    go_simp
    with_reducible rfl
  rotate_left
  · simp only [Act.put, List.setIfInBounds_toArray, List.set_cons_zero, List.set_cons_succ, i64_w, i32_w]
    rfl
  refine done_ (by kernel_rfl) ?_

  go_wp2
  go_ret
  have hg6 := HP6.out.2.1
  have h6 := HP6.out.2.2
  exact ⟨v1, rfl, HP6.out.1, grown_trans HG5.out hg6, h6.imp id (fun ⟨b, hb1, hb2⟩ => ⟨b, hb1, Nat.le_trans HG5.out.size hb2⟩)⟩
end Go.Proofs.YtfogfkikkekmkaaDoor.DiskDone
