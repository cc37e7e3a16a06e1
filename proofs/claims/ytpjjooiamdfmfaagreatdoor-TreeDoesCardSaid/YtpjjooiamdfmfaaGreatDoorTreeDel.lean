/- tree: slices.DeleteFunc of items. -/
import Derived.Test.YtpjjooiamdfmfaaGreatDoorTreeFn
import Derived.Test.YtpjjooiamdfmfaaGreatDoorRaw
set_option linter.unusedVariables false
set_option linter.unusedSimpArgs false
namespace Go.Proofs.YtpjjooiamdfmfaaGreatDoor.TreeDel
open Go.RowKit Go.Proofs.YtpjjooiamdfmfaaGreatDoorW.PrintWords Go.Proofs.YtpjjooiamdfmfaaGreatDoorW.PrintLast Go.Proofs.YtpjjooiamdfmfaaGreatDoorW.PrintMore Go.Proofs.YtpjjooiamdfmfaaGreatDoor.Item Go.Proofs.YtpjjooiamdfmfaaGreatDoor.Own Go.Proofs.YtpjjooiamdfmfaaGreatDoor.Raw Go.Proofs.YtpjjooiamdfmfaaGreatDoor.TreeLaw Go.Proofs.YtpjjooiamdfmfaaGreatDoor.NameWalk Go.Proofs.YtpjjooiamdfmfaaGreatDoor.SortSwap Go.Proofs.YtpjjooiamdfmfaaGreatDoor.SortIns Go.Proofs.YtpjjooiamdfmfaaGreatDoor.TreeFn

/-- How far it has come: i are kept of the first j, what stands behind j is as it was. -/
structure Kept (p : It → Bool) (l d : List It) (i j : Nat) : Prop where
  len : d.length = l.length
  lt : i < j
  le : j ≤ l.length
  head : d.take i = (l.take j).filter (fun x => !p x)
  tail : d.drop j = l.drop j
theorem Kept.start {p : It → Bool} {l : List It} {i : Nat} (hi : i < l.length) (h : ∀ k (hk : k < i), p (l[k]'(by omega)) = false) (hp : p l[i] = true) : Kept p l l i (i + 1) where
  len := rfl
  lt := by omega
  le := hi
  head := by
    rw [← List.take_append_getElem hi, List.filter_append, List.filter_cons_of_neg (by simp [hp]), List.filter_nil, List.append_nil]
    refine (List.filter_eq_self.2 (fun x hx => ?_)).symm
    obtain ⟨k, hk, e⟩ := List.mem_iff_getElem.1 hx
    rw [List.length_take] at hk
    have hki : k < i := by omega
    rw [List.getElem_take] at e
    rw [← e, h k hki]; rfl
  tail := rfl
theorem Kept.at {p : It → Bool} {l d : List It} {i j : Nat} (h : Kept p l d i j) (hj : j < l.length) : d[j]? = some l[j] := by
  have := h.tail
  rw [List.drop_eq_getElem_cons hj] at this
  have h2 : (d.drop j)[0]? = some l[j] := by rw [this]; rfl
  rw [List.getElem?_drop, Nat.add_zero] at h2
  exact h2
theorem Kept.skip {p : It → Bool} {l d : List It} {i j : Nat} (h : Kept p l d i j) (hj : j < l.length) (hp : p l[j] = true) : Kept p l d i (j + 1) where
  len := h.len
  lt := by have := h.lt; omega
  le := hj
  head := by
    rw [h.head, ← List.take_append_getElem hj, List.filter_append, List.filter_cons_of_neg (by simp [hp]), List.filter_nil, List.append_nil]
  tail := by
    rw [← List.drop_drop, h.tail, List.drop_drop]
theorem Kept.keep {p : It → Bool} {l d : List It} {i j : Nat} (h : Kept p l d i j) (hj : j < l.length) (hp : p l[j] = false) : Kept p l (d.set i l[j]) (i + 1) (j + 1) where
  len := by rw [List.length_set]; exact h.len
  lt := by have := h.lt; omega
  le := hj
  head := by
    have hi : i < d.length := by have := h.lt; have := h.len; omega
    have hi2 : i < (d.set i l[j]).length := by rw [List.length_set]; exact hi
    rw [← List.take_append_getElem hi2, List.getElem_set_self, List.take_set, List.set_eq_of_length_le (by rw [List.length_take]; omega), h.head, ← List.take_append_getElem hj, List.filter_append, List.filter_cons_of_pos (by simp [hp]), List.filter_nil]
  tail := by
    rw [List.drop_set, if_pos (by have := h.lt; omega), ← List.drop_drop, h.tail, List.drop_drop]
theorem Kept.done {p : It → Bool} {l d : List It} {i : Nat} (h : Kept p l d i l.length) : d.take i = l.filter (fun x => !p x) := by
  rw [h.head, List.take_length]
theorem row_front {W : World} {n g N c i : Nat} {d : List It} {cur vs : List Value} (h : RawAt W n g c cur) (hN : d.length = N) (hi : i ≤ N) (hc : N ≤ c) (he : cur.take (N * 8) = flat d) (hv : i * 8 + vs.length ≤ cur.length) : Row (W.setRow g (laid cur vs (i * 8)).toArray) n g i c (d.take i) := by
  refine Row.ofRaw (h.lay hv).1 (by rw [List.length_take]; omega) (by omega) ?_
  rw [← flat_take, ← he, List.take_take, Nat.min_eq_left (by omega)]
  unfold laid
  rw [List.append_assoc, List.take_append_of_le_length (by rw [List.length_take]; omega), List.take_take, Nat.min_self]
theorem idx_lt {p : It → Bool} {l : List It} (h : l.findIdx p < l.length) : p l[l.findIdx p] = true ∧ ∀ k (hk : k < l.findIdx p), p (l[k]'(by omega)) = false := ⟨List.findIdx_getElem, fun k hk => by simpa using List.not_of_lt_findIdx hk⟩
theorem idx_not {p : It → Bool} {l : List It} (h : ¬ l.findIdx p < l.length) : l.filter (fun x => !p x) = l := by
  refine List.filter_eq_self.2 (fun x hx => ?_)
  have hle : l.findIdx p = l.length := Nat.le_antisymm (List.findIdx_le_length) (by omega)
  have := List.findIdx_eq_length.1 hle x hx
  rw [this]; rfl
theorem below_next_ {U W W1 : World} (h : Below U.heap.size U W) (k : Below W.heap.size W W1) : Below U.heap.size U W1 := h.trans (k.mono h.size)
set_option maxHeartbeats 8000000 in
set_option maxRecDepth 100000 in
theorem delete_row (W0 : World) (F bc g N c : Nat) (p : It → Bool) (l : List It) (W : World) (hN : N ≤ 1000000) (hB : Below W0.heap.size W0 W) (h : Row W W0.heap.size g N c l) (hp : Asks W0 F bc p l) :
    Calls Tryz.prog 43 #[.slice (some ⟨g, 0, none⟩) N c, .func (.func F) #[] #[.pointer (some ⟨bc, 0, none⟩)]] W fun e w' => e = .returned (.slice (some ⟨g, 0, none⟩) (l.filter (fun x => !p x)).length c) ∧ Row w' W0.heap.size g (l.filter (fun x => !p x)).length c (l.filter (fun x => !p x)) ∧ Below W0.heap.size W0 w' := by
  obtain ⟨ad, had⟩ : ∃ ad : Addr, ad = ⟨g, 0, none⟩ := ⟨_, rfl⟩
  have HN0 := h.1
  have HRD := h.read
  have hI := index_any F bc p l (some ⟨g, 0, none⟩) c W HRD (hp.later hB)
  rw [HN0] at hI
  rw [← had] at hI ⊢
  have HI := Lib.hid hI
  have HAD := Lib.hid had
  have HNG := Lib.hid h.base
  have HB := Lib.hid hB
  have HP := Lib.hid hp.2
  have eg := hp.1
  have HR := Lib.hid h
  have HLN := Lib.hid HN0
  clear had hI hB hp h HRD
  by_cases hx : l.findIdx p < l.length
  · obtain ⟨i0, hi0⟩ : ∃ i0, i0 = l.findIdx p := ⟨_, rfl⟩
    have e1 : idxP p l = (i0 : Int) := by unfold idxP; rw [if_pos hx, hi0]
    rw [e1] at HI
    have hiN : i0 < N := by omega
    have HK0 : Hid (Kept p l l i0 (i0 + 1)) := Lib.hid (by
      have := idx_lt hx
      rw [← hi0] at hx
      exact Kept.start hx (fun k hk => this.2 k (by omega)) (by
        have := this.1
        simp only [← hi0] at this
        exact this))
    have q0 : ((i0 : Int) == (-1)) = false := beq_eq_false_iff_ne.2 (by omega)
    obtain ⟨Fu, hFu⟩ : ∃ Fu, Fu = N := ⟨_, rfl⟩
    have hFN : N ≤ i0 + 1 + Fu := by omega
    clear hi0 e1 hx HN0 hFu
    go_enter Tryz.func43, Tryz.ntmps43
    go_wp2_with (go_at_call 47; refine HI.out.mono ?_; rintro e w1 ⟨rfl, hb⟩; have HB1 := Lib.hid (below_next_ HB.out hb); have HR1 := Lib.hid (HR.out.below hb); clear hb HR HB HI)
    go_loopg [5, 6, 7] Fu (fun gg vi vj vt wr => ∃ i j : Nat, vi = .int .i64 i ∧ vj = .int .i64 j ∧ i < N ∧ j ≤ N ∧ i < j ∧ N ≤ j + gg ∧ Hid (∃ d, Kept p l d i j ∧ Row wr W0.heap.size g N c d) ∧ Hid (Below W0.heap.size W0 wr))
    case atStart => exact ⟨i0, i0 + 1, rfl, by go_num, hiN, hiN, by omega, hFN, Lib.hid ⟨l, HK0.out, HR1.out⟩, HB1⟩
    case round =>
      clear HK0 HR1 HB1 hFN
      obtain ⟨i, j, rfl, rfl, hiN, hjN, hij, hjg, HS, HB⟩ := hrel
      obtain ⟨d, hk, hR⟩ := HS.out
      have HK := Lib.hid hk
      have HR := Lib.hid hR
      clear hk hR HS
      by_cases hlt : j < N
      · have hltI : (j : Int) < (N : Int) := by omega
        have hjl : j < l.length := by rw [HLN.out]; exact hlt
        obtain ⟨x, hxj⟩ : ∃ x, x = l[j] := ⟨_, rfl⟩
        have HXJ := Lib.hid hxj
        have hdj := HK.out.at hjl
        rw [← hxj] at hdj
        have hmem : x ∈ l := by rw [hxj]; exact List.getElem_mem hjl
        obtain ⟨x0, x1, x2, x3, x4, x5, x6, x7⟩ := x
        obtain ⟨e0, e1, e2, e3, e4, e5, e6, e7⟩ := row_load HR.out HAD.out hdj
        simp only at e0 e1 e2 e3 e4 e5 e6 e7
        have hb3 := below_one wr (.cells #[.string x0, .int .i64 x1, .int .u32 x2, .int .u32 x3, .int .u32 x4, .int .i64 x5, .int .i64 x6, .string x7] 33)
        have HB3 := Lib.hid (below_next_ HB.out hb3)
        have HR3 := Lib.hid (HR.out.below hb3)
        have HI3 := Lib.hid (heap_alloc_new wr (.cells #[.string x0, .int .i64 x1, .int .u32 x2, .int .u32 x3, .int .u32 x4, .int .i64 x5, .int .i64 x6, .string x7] 33))
        have c0 : (wr.alloc (.cells #[.string x0, .int .i64 x1, .int .u32 x2, .int .u32 x3, .int .u32 x4, .int .i64 x5, .int .i64 x6, .string x7] 33)).cell? ⟨wr.heap.size, 0, none⟩ = some (.string x0) := by rw [cell_of HI3.out]; rfl
        have c1 : (wr.alloc (.cells #[.string x0, .int .i64 x1, .int .u32 x2, .int .u32 x3, .int .u32 x4, .int .i64 x5, .int .i64 x6, .string x7] 33)).cell? ⟨wr.heap.size, 1, none⟩ = some (.int .i64 x1) := by rw [cell_of HI3.out]; rfl
        have c2 : (wr.alloc (.cells #[.string x0, .int .i64 x1, .int .u32 x2, .int .u32 x3, .int .u32 x4, .int .i64 x5, .int .i64 x6, .string x7] 33)).cell? ⟨wr.heap.size, 2, none⟩ = some (.int .u32 x2) := by rw [cell_of HI3.out]; rfl
        have c3 : (wr.alloc (.cells #[.string x0, .int .i64 x1, .int .u32 x2, .int .u32 x3, .int .u32 x4, .int .i64 x5, .int .i64 x6, .string x7] 33)).cell? ⟨wr.heap.size, 3, none⟩ = some (.int .u32 x3) := by rw [cell_of HI3.out]; rfl
        have c4 : (wr.alloc (.cells #[.string x0, .int .i64 x1, .int .u32 x2, .int .u32 x3, .int .u32 x4, .int .i64 x5, .int .i64 x6, .string x7] 33)).cell? ⟨wr.heap.size, 4, none⟩ = some (.int .u32 x4) := by rw [cell_of HI3.out]; rfl
        have c5 : (wr.alloc (.cells #[.string x0, .int .i64 x1, .int .u32 x2, .int .u32 x3, .int .u32 x4, .int .i64 x5, .int .i64 x6, .string x7] 33)).cell? ⟨wr.heap.size, 5, none⟩ = some (.int .i64 x5) := by rw [cell_of HI3.out]; rfl
        have c6 : (wr.alloc (.cells #[.string x0, .int .i64 x1, .int .u32 x2, .int .u32 x3, .int .u32 x4, .int .i64 x5, .int .i64 x6, .string x7] 33)).cell? ⟨wr.heap.size, 6, none⟩ = some (.int .i64 x6) := by rw [cell_of HI3.out]; rfl
        have c7 : (wr.alloc (.cells #[.string x0, .int .i64 x1, .int .u32 x2, .int .u32 x3, .int .u32 x4, .int .i64 x5, .int .i64 x6, .string x7] 33)).cell? ⟨wr.heap.size, 7, none⟩ = some (.string x7) := by rw [cell_of HI3.out]; rfl
        have hc := HP.out x0 x1 x2 x3 x4 x5 x6 x7 hmem _ HB3.out
        obtain ⟨q, hq⟩ : ∃ q, q = p (x0, x1, x2, x3, x4, x5, x6, x7) := ⟨_, rfl⟩
        rw [← hq] at hc
        have HQ := Lib.hid hq
        have HC := Lib.hid hc
        clear hc hq hxj hdj hmem hb3 HR HB
        cases q with
        | true =>
          have HK2 : Hid (Kept p l d i (j + 1)) := Lib.hid (HK.out.skip hjl (by rw [← HXJ.out]; exact HQ.out.symm))
          clear HK HXJ HQ
          go_wp2_with (go_at_fn F; refine HC.out.mono ?_; rintro e w4 ⟨rfl, hb4⟩; have HB4 := Lib.hid (below_next_ HB3.out hb4); have HR4 := Lib.hid (HR3.out.below hb4); clear hb4)
          go_roundg (gk - 1)
          case measure => omega
          case rel => exact ⟨i, j + 1, rfl, by go_num, hiN, by omega, by omega, by omega, Lib.hid ⟨d, HK2.out, HR4.out⟩, HB4⟩
        | false =>
          have HK2 : Hid (Kept p l (d.set i (x0, x1, x2, x3, x4, x5, x6, x7)) (i + 1) (j + 1)) := Lib.hid (by
            have := HK.out.keep hjl (by rw [← HXJ.out]; exact HQ.out.symm)
            rw [← HXJ.out] at this
            exact this)
          obtain ⟨z, hz⟩ : ∃ z, d[i]? = some z := ⟨_, List.getElem?_eq_getElem (by have := HK.out.len; have := HLN.out; omega)⟩
          have HZ := Lib.hid hz
          clear HK HXJ HQ hz
          go_wp2_with fail
          generalize wr.alloc (.cells #[.string x0, .int .i64 x1, .int .u32 x2, .int .u32 x3, .int .u32 x4, .int .i64 x5, .int .i64 x6, .string x7] 33) = w3 at *
          generalize wr.heap.size = b7 at *
          clear c0 c1 c2 c3 c4 c5 c6 c7 e0 e1 e2 e3 e4 e5 e6 e7
          go_at_fn F
          refine HC.out.mono ?_
          rintro e w4 ⟨rfl, hb4⟩
          have HB4 := Lib.hid (below_next_ HB3.out hb4)
          have HR4 := Lib.hid (HR3.out.below hb4)
          have hi4 := (hb4.block b7 (Array.getElem?_eq_some_iff.1 HI3.out).1).trans HI3.out
          have c0 : w4.cell? ⟨b7, 0, none⟩ = some (.string x0) := by rw [cell_of hi4]; rfl
          have c1 : w4.cell? ⟨b7, 1, none⟩ = some (.int .i64 x1) := by rw [cell_of hi4]; rfl
          have c2 : w4.cell? ⟨b7, 2, none⟩ = some (.int .u32 x2) := by rw [cell_of hi4]; rfl
          have c3 : w4.cell? ⟨b7, 3, none⟩ = some (.int .u32 x3) := by rw [cell_of hi4]; rfl
          have c4 : w4.cell? ⟨b7, 4, none⟩ = some (.int .u32 x4) := by rw [cell_of hi4]; rfl
          have c5 : w4.cell? ⟨b7, 5, none⟩ = some (.int .i64 x5) := by rw [cell_of hi4]; rfl
          have c6 : w4.cell? ⟨b7, 6, none⟩ = some (.int .i64 x6) := by rw [cell_of hi4]; rfl
          have c7 : w4.cell? ⟨b7, 7, none⟩ = some (.string x7) := by rw [cell_of hi4]; rfl
          clear hb4 hi4 HC HI3 HR3 HB3
          go_wp2_with (first | (refine store_by_run (p := .tmp 33) (v := .tmp 32) (k := i) (x0, x1, x2, x3, x4, x5, x6, x7) rfl rfl rfl rfl rfl HAD.out HR4.out HZ.out ?_; have hs1 := row_set (x0, x1, x2, x3, x4, x5, x6, x7) HR4.out HZ.out; have HR5 := Lib.hid hs1.1; have HB5 := Lib.hid (below_row HB4.out hs1.2 HNG.out); clear hs1 c0 c1 c2 c3 c4 c5 c6 c7; generalize w4.setCells g (i * 8) (cellsI (x0, x1, x2, x3, x4, x5, x6, x7)) = w5 at *))
          go_roundg (gk - 1)
          case measure => omega
          case rel => exact ⟨i + 1, j + 1, by go_num, by go_num, by omega, by omega, by omega, by omega, Lib.hid ⟨_, HK2.out, HR5.out⟩, HB5⟩
      · have hltI : ¬ (j : Int) < (N : Int) := by omega
        have hjN2 : j = N := by omega
        subst hjN2
        obtain ⟨cur, hraw, hcN, hflat⟩ := Row.raw HR.out
        have hcap : cur.length = c * 8 := hraw.size
        have hrun := run_clear_raw hraw (t := 22) (ty := 0) Tryz.underlying22 i (j - i) (c - i) (by omega) (by omega)
        have hfr := row_front (i := i) (vs := zc (j - i)) hraw HR.out.1 (by omega) hcN hflat (by rw [zc_len]; omega)
        have hgr := (hraw.lay (o := i * 8) (vs := zc (j - i)) (by rw [zc_len]; omega)).2
        have hdone : d.take i = l.filter (fun x => !p x) := by
          have := HK.out
          rw [← HLN.out] at this
          exact this.done
        rw [hdone] at hfr
        have hil : (l.filter (fun x => !p x)).length = i := by rw [← hdone, List.length_take, HR.out.1]; omega
        have HRUN := Lib.hid hrun
        have HFR := Lib.hid hfr
        have HB2 := Lib.hid (below_row HB.out hgr HNG.out)
        have HIL := Lib.hid hil
        have haddI : ad.add (i * 8) = ⟨g, i * 8, none⟩ := by rw [HAD.out, Addr.add_lit, Nat.zero_add]
        have hic : i ≤ c := by omega
        have hiI : (i : Int) ≤ (j : Int) := by omega
        have hicI : (i : Int) ≤ (c : Int) := by omega
        clear hrun hfr hgr hdone hil hraw hflat hcap HK HR HB
        go_wp2_with (first | ((with_reducible refine gate_builtin (b := .clear) (xs := #[.tmp 38]) rfl ?_); refine clear_by_run rfl (.tmp 38) rfl rfl HRUN.out ?_))
        go_ret
        exact ⟨by rw [HIL.out]; rfl, by rw [HIL.out]; exact HFR.out, HB2.out⟩
  · have e1 : idxP p l = -1 := by unfold idxP; rw [if_neg hx]
    rw [e1] at HI
    have HF := Lib.hid (idx_not hx)
    clear e1 hx
    go_enter Tryz.func43, Tryz.ntmps43
    go_wp2_with (go_at_call 47; refine HI.out.mono ?_; rintro e w1 ⟨rfl, hb⟩; have HB1 := Lib.hid (below_next_ HB.out hb); have HR1 := Lib.hid (HR.out.below hb); clear hb)
    go_ret
    rw [HF.out, HLN.out]
    exact ⟨rfl, HR1.out, HB1.out⟩
/-- A row of one's own is none, or lies in a block. -/
theorem row_cases {W : World} {n : Nat} {v : Value} {l : List It} (h : itemK.R 33 W n (fun _ => True) v l) : (v = .slice none 0 0 ∧ l = []) ∨ ∃ g c, v = .slice (some ⟨g, 0, none⟩) l.length c ∧ Row W n g l.length c l := by
  obtain ⟨inner, hown⟩ := Kd.R_own h
  rcases hown.2 with ⟨e, hn⟩ | ⟨g, cap, cur, e, _⟩
  · exact .inl ⟨e, List.eq_nil_of_length_eq_zero hn⟩
  · exact .inr ⟨g, cap, e, rfl, by rw [← e]; exact h⟩
theorem Row.R {W : World} {n g N c : Nat} {l : List It} (h : Row W n g N c l) : itemK.R 33 W n (fun _ => True) (.slice (some ⟨g, 0, none⟩) N c) l := h.2
theorem delete_none (W0 : World) (F bc : Nat) (p : It → Bool) (W : World) (hB : Below W0.heap.size W0 W) (hp : Asks W0 F bc p []) :
    Calls Tryz.prog 43 #[.slice none 0 0, .func (.func F) #[] #[.pointer (some ⟨bc, 0, none⟩)]] W fun e w' => e = .returned (.slice none 0 0) ∧ Below W0.heap.size W0 w' := by
  have HI : Hid (Calls Tryz.prog 47 #[.slice none 0 0, .func (.func F) #[] #[.pointer (some ⟨bc, 0, none⟩)]] W fun e w' => e = .returned (.int .i64 (-1)) ∧ Below W.heap.size W w') := Lib.hid (index_any F bc p [] none 0 W ⟨rfl, by simp, fun h => absurd h (Nat.lt_irrefl _)⟩ (hp.later hB))
  have HB := Lib.hid hB
  clear hp hB
  go_enter Tryz.func43, Tryz.ntmps43
  go_wp2_with (go_at_call 47; refine HI.out.mono ?_; rintro e w1 ⟨rfl, hb⟩; have HB1 := Lib.hid (below_next_ HB.out hb); clear hb)
  go_ret
  exact ⟨rfl, HB1.out⟩
/-- slices.DeleteFunc of a row of one's own. -/
theorem delete_any (W0 : World) (F bc : Nat) (p : It → Bool) (l : List It) (v : Value) (W : World) (hN : l.length ≤ 1000000) (hB : Below W0.heap.size W0 W) (h : itemK.R 33 W W0.heap.size (fun _ => True) v l) (hp : Asks W0 F bc p l) :
    Calls Tryz.prog 43 #[v, .func (.func F) #[] #[.pointer (some ⟨bc, 0, none⟩)]] W fun e w' => ∃ v1, e = .returned v1 ∧ itemK.R 33 w' W0.heap.size (fun _ => True) v1 (l.filter (fun x => !p x)) ∧ Below W0.heap.size W0 w' := by
  rcases row_cases h with ⟨rfl, rfl⟩ | ⟨g, c, rfl, hr⟩
  · refine (delete_none W0 F bc p W hB hp).mono ?_
    rintro e w' ⟨rfl, hb⟩
    exact ⟨_, rfl, Kd.R_nil _ _ _ _ _, hb⟩
  · refine (delete_row W0 F bc g l.length c p l W hN hB hr hp).mono ?_
    rintro e w' ⟨rfl, h2, hb⟩
    exact ⟨_, rfl, h2.2, hb⟩
end Go.Proofs.YtpjjooiamdfmfaaGreatDoor.TreeDel
