/- TreePuts, walked: whatever the items, the path and the node, the law answers true. -/
import Derived.Test.YtfnjoncklgllcaaDoorTreeAwake
import Derived.Test.YtfnjoncklgllcaaDoorItemArg
set_option linter.unusedVariables false
set_option linter.unusedSimpArgs false
namespace Go.Proofs.YtfnjoncklgllcaaDoor.TreePuts
open Go.RowKit Go.ChangeShapes Go.WideShapes Go.Proofs.YtfnjoncklgllcaaDoorW.PrintWords Go.Proofs.YtfnjoncklgllcaaDoorW.PrintLast Go.Proofs.YtfnjoncklgllcaaDoorW.PrintMore Go.Proofs.YtfnjoncklgllcaaDoor.Item Go.Proofs.YtfnjoncklgllcaaDoor.Own Go.Proofs.YtfnjoncklgllcaaDoor.TreeLaw Go.Proofs.YtfnjoncklgllcaaDoor.NameLaw Go.Proofs.YtfnjoncklgllcaaDoor.NameWalk Go.Proofs.YtfnjoncklgllcaaDoor.NameOrd Go.Proofs.YtfnjoncklgllcaaDoor.NameRef Go.Proofs.YtfnjoncklgllcaaDoor.NameUse Go.Proofs.YtfnjoncklgllcaaDoor.SortIns Go.Proofs.YtfnjoncklgllcaaDoor.TreeFn Go.Proofs.YtfnjoncklgllcaaDoor.NodeRes Go.Proofs.YtfnjoncklgllcaaDoor.Tree Go.Proofs.YtfnjoncklgllcaaDoor.TreeRef Go.Proofs.YtfnjoncklgllcaaDoor.TreeRight Go.Proofs.YtfnjoncklgllcaaDoor.TreeTright Go.Proofs.YtfnjoncklgllcaaDoor.FillLaw Go.Proofs.YtfnjoncklgllcaaDoor.TreeAwake

theorem few_spec {l : List It} (h : fewP l = true) : l.length ≤ 60 ∧ ∀ x ∈ l, x.1.size ≤ 1000 ∧ x.2.2.2.2.2.2.2.size ≤ 5000 := by
  unfold fewP at h
  rw [List.all_eq_true] at h
  have h1 : ∀ x ∈ l, l.length ≤ 60 ∧ x.1.size ≤ 1000 ∧ x.2.2.2.2.2.2.2.size ≤ 5000 := by
    intro x hx
    have h2 := h x hx
    simp [okI] at h2
    exact ⟨h2.1.1, h2.1.2, h2.2⟩
  refine ⟨?_, fun x hx => (h1 x hx).2⟩
  cases l with
  | nil => simp
  | cons x t => exact (h1 x (by simp)).1
set_option maxHeartbeats 8000000 in
set_option maxRecDepth 100000 in
theorem puts_any (l : List It) (A : Option Addr) (c : Nat) (s : ByteArray) (kd mo ui gi mt at_ : Int) (da : ByteArray) (W : World) (hg : Glob W) (hl : ItemC W A l) :
    Calls Tryd.prog 3 #[.slice A l.length c, .string s, .agg #[.int .i64 kd, .int .u32 mo, .int .u32 ui, .int .u32 gi, .int .i64 mt, .int .i64 at_, .string da]] W fun e w' => e = .returned (.bool true) ∧ Below W.heap.size W w' := by
  have hbo := below_one W (.cells #[.int .i64 kd, .int .u32 mo, .int .u32 ui, .int .u32 gi, .int .i64 mt, .int .i64 at_, .string da] 25)
  have HN := Lib.hid (heap_new W (.cells #[.int .i64 kd, .int .u32 mo, .int .u32 ui, .int .u32 gi, .int .i64 mt, .int .i64 at_, .string da] 25))
  have HL := Lib.hid (Kd.C_below hl hbo)
  have HG := Lib.hid (hg.below hbo)
  have HB := Lib.hid hbo
  clear hl hg hbo
  go_enter Tryd.func3, Tryd.ntmps3
  go_wp2_with fail
  generalize W.alloc (.cells #[.int .i64 kd, .int .u32 mo, .int .u32 ui, .int .u32 gi, .int .i64 mt, .int .i64 at_, .string da] 25) = U at *
  refine (awake_any U HG.out).mono ?_
  rintro e w1 ⟨rfl, hb⟩
  have HB := Lib.hid (below_next HB.out hb)
  have HL := Lib.hid (Kd.C_below HL.out hb)
  have HG := Lib.hid (HG.out.below hb)
  have HN := Lib.hid ((hb.block _ (Array.getElem?_eq_some_iff.1 HN.out).1).trans HN.out)
  clear hb
  have HFW := Lib.hid (few_any l A c w1 HL.out)
  have HFS := Lib.hid (fun h => few_spec (l := l) h)
  generalize fewP l = l3 at *
  go_wp2_with fail
  refine HFW.out.mono ?_
  rintro e w2 ⟨rfl, hb⟩
  have HB := Lib.hid (below_next HB.out hb)
  have HL := Lib.hid (Kd.C_below HL.out hb)
  have HG := Lib.hid (HG.out.below hb)
  have HN := Lib.hid ((hb.block _ (Array.getElem?_eq_some_iff.1 HN.out).1).trans HN.out)
  clear hb HFW
  cases l3 with
  | false =>
    go_wp2
    go_ret
    exact ⟨rfl, HB.out⟩
  | true =>
  have hfs := HFS.out rfl
  have hn := hfs.1
  have HSZ := Lib.hid hfs.2
  clear hfs HFS
  by_cases hs : 1000 < s.size
  · have hsI : (1000 : Int) < s.size := by omega
    go_wp2
    go_ret
    exact ⟨rfl, HB.out⟩
  · have hsI : ¬ (1000 : Int) < s.size := by omega
    have hsh : Short l := fun x hx => by have := (HSZ.out x hx).1; omega
    have HP := Lib.hid (put_any l A c s kd mo ui gi mt at_ da w2 HG.out HL.out (by omega) hsh (by omega))
    have k0 : w2.cell? ⟨W.heap.size, 0, none⟩ = some (.int .i64 kd) := by rw [cell_of HN.out]; rfl
    have k1 : w2.cell? ⟨W.heap.size, 1, none⟩ = some (.int .u32 mo) := by rw [cell_of HN.out]; rfl
    have k2 : w2.cell? ⟨W.heap.size, 2, none⟩ = some (.int .u32 ui) := by rw [cell_of HN.out]; rfl
    have k3 : w2.cell? ⟨W.heap.size, 3, none⟩ = some (.int .u32 gi) := by rw [cell_of HN.out]; rfl
    have k4 : w2.cell? ⟨W.heap.size, 4, none⟩ = some (.int .i64 mt) := by rw [cell_of HN.out]; rfl
    have k5 : w2.cell? ⟨W.heap.size, 5, none⟩ = some (.int .i64 at_) := by rw [cell_of HN.out]; rfl
    have k6 : w2.cell? ⟨W.heap.size, 6, none⟩ = some (.string da) := by rw [cell_of HN.out]; rfl
    have HSH := Lib.hid hsh
    have hlp : (putP l (s, kd, mo, ui, gi, mt, at_, da)).length ≤ 61 := by have := put_len l (s, kd, mo, ui, gi, mt, at_, da); omega
    clear hsh
    go_wp2_with fail
    clear k0 k1 k2 k3 k4 k5 k6
    refine HP.out.mono ?_
    rintro e w3 ⟨v, rfl, hr, hb⟩
    obtain ⟨A3, c3, hv, _, hT⟩ := Kd.R_reads hr
    subst hv
    have HT := Lib.hid hT
    have HB := Lib.hid (below_next HB.out hb)
    have HL := Lib.hid (Kd.C_below HL.out hb)
    have HG := Lib.hid (HG.out.below hb)
    have HN := Lib.hid ((hb.block _ (Array.getElem?_eq_some_iff.1 HN.out).1).trans HN.out)
    clear hb hr hT HP
    have HFI := Lib.hid (find_any (putP l (s, kd, mo, ui, gi, mt, at_, da)) A3 c3 s w3 HT.out (by omega))
    rw [show findP (putP l (s, kd, mo, ui, gi, mt, at_, da)) s = some (s, kd, mo, ui, gi, mt, at_, da) from find_put l (s, kd, mo, ui, gi, mt, at_, da)] at HFI
    have HDP := Lib.hid (fun p => find_drop (putP l (s, kd, mo, ui, gi, mt, at_, da)) p)
    have hdl : (dropP (putP l (s, kd, mo, ui, gi, mt, at_, da)) s).length ≤ 61 := Nat.le_trans (List.length_filter_le _ _) hlp
    generalize putP l (s, kd, mo, ui, gi, mt, at_, da) = t3 at *
    go_wp2_with fail
    refine HFI.out.mono ?_
    rintro e w4 ⟨rfl, hb⟩
    have HT := Lib.hid (Kd.C_below HT.out hb)
    have HB := Lib.hid (below_next HB.out hb)
    have HL := Lib.hid (Kd.C_below HL.out hb)
    have HG := Lib.hid (HG.out.below hb)
    have HN := Lib.hid ((hb.block _ (Array.getElem?_eq_some_iff.1 HN.out).1).trans HN.out)
    clear hb HFI
    have hb := below_one w4 (.cells #[.int .i64 kd, .int .u32 mo, .int .u32 ui, .int .u32 gi, .int .i64 mt, .int .i64 at_, .string da] 25)
    have HN2 := Lib.hid (heap_new w4 (.cells #[.int .i64 kd, .int .u32 mo, .int .u32 ui, .int .u32 gi, .int .i64 mt, .int .i64 at_, .string da] 25))
    have HT := Lib.hid (Kd.C_below HT.out hb)
    have HB := Lib.hid (below_next HB.out hb)
    have HL := Lib.hid (Kd.C_below HL.out hb)
    have HG := Lib.hid (HG.out.below hb)
    have HN := Lib.hid ((hb.block _ (Array.getElem?_eq_some_iff.1 HN.out).1).trans HN.out)
    clear hb
    have HD := Lib.hid (drop_any t3 A3 c3 s _ HT.out (by omega))
    simp only [aggN, nodeOf, Option.isSome]
    go_wp2_with fail
    generalize w4.alloc (.cells #[.int .i64 kd, .int .u32 mo, .int .u32 ui, .int .u32 gi, .int .i64 mt, .int .i64 at_, .string da] 25) = U4 at *
    generalize hb2 : w4.heap.size = b2 at *
    refine HD.out.mono ?_
    rintro e w5 ⟨v, rfl, hr, hb⟩
    obtain ⟨A5, c5, hv, _, hT⟩ := Kd.R_reads hr
    subst hv
    have HT5 := Lib.hid hT
    have HL := Lib.hid (Kd.C_below HL.out hb)
    have HB := Lib.hid (below_next HB.out hb)
    have HG := Lib.hid (HG.out.below hb)
    have HN := Lib.hid ((hb.block _ (Array.getElem?_eq_some_iff.1 HN.out).1).trans HN.out)
    have HN2 := Lib.hid ((hb.block _ (Array.getElem?_eq_some_iff.1 HN2.out).1).trans HN2.out)
    clear hb hr hT HD HT
    have HFJ := Lib.hid (find_any (dropP t3 s) A5 c5 s w5 HT5.out (by omega))
    rw [HDP.out s] at HFJ
    generalize dropP t3 s = t5 at *
    go_wp2_with fail
    refine HFJ.out.mono ?_
    rintro e w6 ⟨rfl, hb⟩
    have HL := Lib.hid (Kd.C_below HL.out hb)
    have HB := Lib.hid (below_next HB.out hb)
    have HG := Lib.hid (HG.out.below hb)
    have HN := Lib.hid ((hb.block _ (Array.getElem?_eq_some_iff.1 HN.out).1).trans HN.out)
    have HN2 := Lib.hid ((hb.block _ (Array.getElem?_eq_some_iff.1 HN2.out).1).trans HN2.out)
    clear hb HFJ HT5 HDP
    have hb := below_one w6 (.cells #[.int .i64 0, .int .u32 0, .int .u32 0, .int .u32 0, .int .i64 0, .int .i64 0, .string ByteArray.empty] 25)
    have HL := Lib.hid (Kd.C_below HL.out hb)
    have HB := Lib.hid (below_next HB.out hb)
    have HG := Lib.hid (HG.out.below hb)
    have HN := Lib.hid ((hb.block _ (Array.getElem?_eq_some_iff.1 HN.out).1).trans HN.out)
    have HN2 := Lib.hid ((hb.block _ (Array.getElem?_eq_some_iff.1 HN2.out).1).trans HN2.out)
    clear hb
    have HR := Lib.hid (rright16_any l A c _ HL.out (by omega) (fun x hx => by have := (HSZ.out x hx).1; omega))
    have HRD := Lib.hid (right16_drop (t := l) s (fun x hx => by have := (HSZ.out x hx).1; omega))
    have he := fun (dd : Nat) (V : World) => eqNode dd V kd kd mo mo ui ui gi gi mt mt at_ at_ da da
    simp only [beq_self_eq_true, Bool.and_self] at he
    simp only [aggN, nodeOf, Option.isSome, z7]
    have k0 : (w6.alloc (.cells #[.int .i64 0, .int .u32 0, .int .u32 0, .int .u32 0, .int .i64 0, .int .i64 0, .string ByteArray.empty] 25)).cell? ⟨W.heap.size, 0, none⟩ = some (.int .i64 kd) := by rw [cell_of HN.out]; rfl
    have k1 : (w6.alloc (.cells #[.int .i64 0, .int .u32 0, .int .u32 0, .int .u32 0, .int .i64 0, .int .i64 0, .string ByteArray.empty] 25)).cell? ⟨W.heap.size, 1, none⟩ = some (.int .u32 mo) := by rw [cell_of HN.out]; rfl
    have k2 : (w6.alloc (.cells #[.int .i64 0, .int .u32 0, .int .u32 0, .int .u32 0, .int .i64 0, .int .i64 0, .string ByteArray.empty] 25)).cell? ⟨W.heap.size, 2, none⟩ = some (.int .u32 ui) := by rw [cell_of HN.out]; rfl
    have k3 : (w6.alloc (.cells #[.int .i64 0, .int .u32 0, .int .u32 0, .int .u32 0, .int .i64 0, .int .i64 0, .string ByteArray.empty] 25)).cell? ⟨W.heap.size, 3, none⟩ = some (.int .u32 gi) := by rw [cell_of HN.out]; rfl
    have k4 : (w6.alloc (.cells #[.int .i64 0, .int .u32 0, .int .u32 0, .int .u32 0, .int .i64 0, .int .i64 0, .string ByteArray.empty] 25)).cell? ⟨W.heap.size, 4, none⟩ = some (.int .i64 mt) := by rw [cell_of HN.out]; rfl
    have k5 : (w6.alloc (.cells #[.int .i64 0, .int .u32 0, .int .u32 0, .int .u32 0, .int .i64 0, .int .i64 0, .string ByteArray.empty] 25)).cell? ⟨W.heap.size, 5, none⟩ = some (.int .i64 at_) := by rw [cell_of HN.out]; rfl
    have k6 : (w6.alloc (.cells #[.int .i64 0, .int .u32 0, .int .u32 0, .int .u32 0, .int .i64 0, .int .i64 0, .string ByteArray.empty] 25)).cell? ⟨W.heap.size, 6, none⟩ = some (.string da) := by rw [cell_of HN.out]; rfl
    have m0 : (w6.alloc (.cells #[.int .i64 0, .int .u32 0, .int .u32 0, .int .u32 0, .int .i64 0, .int .i64 0, .string ByteArray.empty] 25)).cell? ⟨b2, 0, none⟩ = some (.int .i64 kd) := by rw [cell_of HN2.out]; rfl
    have m1 : (w6.alloc (.cells #[.int .i64 0, .int .u32 0, .int .u32 0, .int .u32 0, .int .i64 0, .int .i64 0, .string ByteArray.empty] 25)).cell? ⟨b2, 1, none⟩ = some (.int .u32 mo) := by rw [cell_of HN2.out]; rfl
    have m2 : (w6.alloc (.cells #[.int .i64 0, .int .u32 0, .int .u32 0, .int .u32 0, .int .i64 0, .int .i64 0, .string ByteArray.empty] 25)).cell? ⟨b2, 2, none⟩ = some (.int .u32 ui) := by rw [cell_of HN2.out]; rfl
    have m3 : (w6.alloc (.cells #[.int .i64 0, .int .u32 0, .int .u32 0, .int .u32 0, .int .i64 0, .int .i64 0, .string ByteArray.empty] 25)).cell? ⟨b2, 3, none⟩ = some (.int .u32 gi) := by rw [cell_of HN2.out]; rfl
    have m4 : (w6.alloc (.cells #[.int .i64 0, .int .u32 0, .int .u32 0, .int .u32 0, .int .i64 0, .int .i64 0, .string ByteArray.empty] 25)).cell? ⟨b2, 4, none⟩ = some (.int .i64 mt) := by rw [cell_of HN2.out]; rfl
    have m5 : (w6.alloc (.cells #[.int .i64 0, .int .u32 0, .int .u32 0, .int .u32 0, .int .i64 0, .int .i64 0, .string ByteArray.empty] 25)).cell? ⟨b2, 5, none⟩ = some (.int .i64 at_) := by rw [cell_of HN2.out]; rfl
    have m6 : (w6.alloc (.cells #[.int .i64 0, .int .u32 0, .int .u32 0, .int .u32 0, .int .i64 0, .int .i64 0, .string ByteArray.empty] 25)).cell? ⟨b2, 6, none⟩ = some (.string da) := by rw [cell_of HN2.out]; rfl
    generalize right16 l = rb at *
    go_wp2_with fail
    refine HR.out.mono ?_
    rintro e w7 ⟨rfl, hb⟩
    have HL := Lib.hid (Kd.C_below HL.out hb)
    have HB := Lib.hid (below_next HB.out hb)
    have HG := Lib.hid (HG.out.below hb)
    clear hb HR HT
    clear k0 m0 k1 m1 k2 m2 k3 m3 k4 m4 k5 m5 k6 m6 he HN HN2
    cases rb with
    | false =>
      have HS1 := Lib.hid (sort_any l A c _ HG.out HL.out (by omega) HSH.out)
      go_wp2_with fail
      refine HS1.out.mono ?_
      rintro e x1 ⟨v, rfl, hr, hb⟩
      obtain ⟨A1, d1, hv, _, hT⟩ := Kd.R_reads hr
      subst hv
      have HT1 := Lib.hid hT
      have HL := Lib.hid (Kd.C_below HL.out hb)
      have HB := Lib.hid (below_next HB.out hb)
      have HG := Lib.hid (HG.out.below hb)
      clear hb hr hT HS1
      have HS2 := Lib.hid (sort_any (sortP l) A1 d1 x1 HG.out HT1.out (by rw [sort_length]; omega) (fun x hx => HSH.out x (sort_mem hx)))
      rw [sort_again] at HS2
      go_wp2_with fail
      refine HS2.out.mono ?_
      rintro e x2 ⟨v, rfl, hr, hb⟩
      obtain ⟨A2, d2, hv, _, hT⟩ := Kd.R_reads hr
      subst hv
      have HT2 := Lib.hid hT
      have HL := Lib.hid (Kd.C_below HL.out hb)
      have HB := Lib.hid (below_next HB.out hb)
      have HG := Lib.hid (HG.out.below hb)
      clear hb hr hT HS2 HT1
      have HS3 := Lib.hid (sort_any l A c _ HG.out HL.out (by omega) HSH.out)
      go_wp2_with fail
      refine HS3.out.mono ?_
      rintro e x3 ⟨v, rfl, hr, hb⟩
      obtain ⟨A3', d3, hv, _, hT⟩ := Kd.R_reads hr
      subst hv
      have HT3 := Lib.hid hT
      have HL := Lib.hid (Kd.C_below HL.out hb)
      have HT2 := Lib.hid (Kd.C_below HT2.out hb)
      have HB := Lib.hid (below_next HB.out hb)
      have HG := Lib.hid (HG.out.below hb)
      clear hb hr hT HS3
      have HSM := Lib.hid (same_any (sortP l) (sortP l) A2 d2 A3' d3 x3 HT2.out HT3.out)
      rw [decide_eq_true (rfl : sortP l = sortP l)] at HSM
      generalize sortP l = sl at *
      go_wp2_with fail
      refine HSM.out.mono ?_
      rintro e x4 ⟨rfl, hb⟩
      have HB := Lib.hid (below_next HB.out hb)
      clear hb HSM
      go_wp2
      go_ret
      exact ⟨rfl, HB.out⟩
    | true =>
      have hrd := HRD.out rfl
      have HD2 := Lib.hid (drop_any l A c s _ HL.out (by omega))
      go_wp2_with fail
      refine HD2.out.mono ?_
      rintro e w8 ⟨v, rfl, hr, hb⟩
      obtain ⟨A8, c8, hv, _, hT⟩ := Kd.R_reads hr
      subst hv
      have HT8 := Lib.hid hT
      have HL := Lib.hid (Kd.C_below HL.out hb)
      have HB := Lib.hid (below_next HB.out hb)
      have HG := Lib.hid (HG.out.below hb)
      clear hb hr hT HD2
      have HR2 := Lib.hid (rright16_any (dropP l s) A8 c8 w8 HT8.out (by have : (dropP l s).length ≤ l.length := List.length_filter_le _ _; omega) (fun x hx => by have := (HSZ.out x (List.mem_filter.1 hx).1).1; omega))
      rw [hrd] at HR2
      clear hrd HRD
      generalize dropP l s = t8 at *
      go_wp2_with fail
      refine HR2.out.mono ?_
      rintro e w9 ⟨rfl, hb⟩
      have HL := Lib.hid (Kd.C_below HL.out hb)
      have HB := Lib.hid (below_next HB.out hb)
      have HG := Lib.hid (HG.out.below hb)
      clear hb HR2 HT8
      have HS1 := Lib.hid (sort_any l A c _ HG.out HL.out (by omega) HSH.out)
      go_wp2_with fail
      refine HS1.out.mono ?_
      rintro e x1 ⟨v, rfl, hr, hb⟩
      obtain ⟨A1, d1, hv, _, hT⟩ := Kd.R_reads hr
      subst hv
      have HT1 := Lib.hid hT
      have HL := Lib.hid (Kd.C_below HL.out hb)
      have HB := Lib.hid (below_next HB.out hb)
      have HG := Lib.hid (HG.out.below hb)
      clear hb hr hT HS1
      have HS2 := Lib.hid (sort_any (sortP l) A1 d1 x1 HG.out HT1.out (by rw [sort_length]; omega) (fun x hx => HSH.out x (sort_mem hx)))
      rw [sort_again] at HS2
      go_wp2_with fail
      refine HS2.out.mono ?_
      rintro e x2 ⟨v, rfl, hr, hb⟩
      obtain ⟨A2, d2, hv, _, hT⟩ := Kd.R_reads hr
      subst hv
      have HT2 := Lib.hid hT
      have HL := Lib.hid (Kd.C_below HL.out hb)
      have HB := Lib.hid (below_next HB.out hb)
      have HG := Lib.hid (HG.out.below hb)
      clear hb hr hT HS2 HT1
      have HS3 := Lib.hid (sort_any l A c _ HG.out HL.out (by omega) HSH.out)
      go_wp2_with fail
      refine HS3.out.mono ?_
      rintro e x3 ⟨v, rfl, hr, hb⟩
      obtain ⟨A3', d3, hv, _, hT⟩ := Kd.R_reads hr
      subst hv
      have HT3 := Lib.hid hT
      have HL := Lib.hid (Kd.C_below HL.out hb)
      have HT2 := Lib.hid (Kd.C_below HT2.out hb)
      have HB := Lib.hid (below_next HB.out hb)
      have HG := Lib.hid (HG.out.below hb)
      clear hb hr hT HS3
      have HSM := Lib.hid (same_any (sortP l) (sortP l) A2 d2 A3' d3 x3 HT2.out HT3.out)
      rw [decide_eq_true (rfl : sortP l = sortP l)] at HSM
      generalize sortP l = sl at *
      go_wp2_with fail
      refine HSM.out.mono ?_
      rintro e x4 ⟨rfl, hb⟩
      have HB := Lib.hid (below_next HB.out hb)
      clear hb HSM
      go_wp2
      go_ret
      exact ⟨rfl, HB.out⟩
theorem walk (v0 : Value) (a1 : ByteArray) (v2 : Value) (W : World) {H : Type} {enc : TypeId × Value → H} {b0 b2 : Nat} {d0 d2 : DataW H} {p0 p2 : List MemPlace}
    (k0 : Value.okWide Tryd.prog W .any b0 22 v0) (h0 : DataW.Trod enc Tryd.prog W 0 (fun _ => true) true 22 v0 d0 p0) (w1 : a1.size ≤ 140737488351232)
    (k2 : Value.okWide Tryd.prog W .any b2 25 v2) (h2 : DataW.Trod enc Tryd.prog W 0 (fun _ => true) true 25 v2 d2 p2) (hg : Glob W) :
    Calls Tryd.prog 3 #[v0, .string a1, v2] W fun e w' => e = .returned (.bool true) ∧ Below W.heap.size W w' := by
  obtain ⟨A, c, l, rfl, hl⟩ := ItemArg.open_items k0 h0
  obtain ⟨kd, mo, ui, gi, mt, at_, da, rfl⟩ := ItemArg.open_node k2 h2
  exact puts_any l A c a1 kd mo ui gi mt at_ da W hg hl
end Go.Proofs.YtfnjoncklgllcaaDoor.TreePuts
