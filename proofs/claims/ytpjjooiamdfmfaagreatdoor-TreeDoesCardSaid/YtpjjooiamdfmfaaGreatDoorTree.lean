/- tree: Find, Drop, Sort, Put. -/
import Derived.Test.YtpjjooiamdfmfaaGreatDoorTreeIns
import Derived.Test.YtpjjooiamdfmfaaGreatDoorNodeRes
import Derived.Test.YtpjjooiamdfmfaaGreatDoorSort
set_option linter.unusedVariables false
set_option linter.unusedSimpArgs false
namespace Go.Proofs.YtpjjooiamdfmfaaGreatDoor.Tree
open Go.RowKit Go.Proofs.YtpjjooiamdfmfaaGreatDoorW.PrintWords Go.Proofs.YtpjjooiamdfmfaaGreatDoorW.PrintLast Go.Proofs.YtpjjooiamdfmfaaGreatDoorW.PrintMore Go.Proofs.YtpjjooiamdfmfaaGreatDoor.Item Go.Proofs.YtpjjooiamdfmfaaGreatDoor.Own Go.Proofs.YtpjjooiamdfmfaaGreatDoor.TreeLaw Go.Proofs.YtpjjooiamdfmfaaGreatDoor.NameWalk Go.Proofs.YtpjjooiamdfmfaaGreatDoor.NameOrd Go.Proofs.YtpjjooiamdfmfaaGreatDoor.SortSwap Go.Proofs.YtpjjooiamdfmfaaGreatDoor.SortIns Go.Proofs.YtpjjooiamdfmfaaGreatDoor.Sort Go.Proofs.YtpjjooiamdfmfaaGreatDoor.TreeFn Go.Proofs.YtpjjooiamdfmfaaGreatDoor.TreeDel Go.Proofs.YtpjjooiamdfmfaaGreatDoor.TreeIns Go.Proofs.YtpjjooiamdfmfaaGreatDoor.NodeRes

theorem findIdx_find (p : It → Bool) (l : List It) : l.find? p = if h : l.findIdx p < l.length then some l[l.findIdx p] else none := by
  induction l with
  | nil => rfl
  | cons x l ih =>
    by_cases hx : p x = true
    · rw [List.find?_cons_of_pos hx]
      have : (x :: l).findIdx p = 0 := by simp [List.findIdx_cons, hx]
      simp [this]
    · rw [List.find?_cons_of_neg hx, ih]
      have : (x :: l).findIdx p = l.findIdx p + 1 := by simp [List.findIdx_cons, hx]
      by_cases h : l.findIdx p < l.length
      · rw [dif_pos h, dif_pos (by rw [this, List.length_cons]; omega)]
        simp [this]
      · rw [dif_neg h, dif_neg (by rw [this, List.length_cons]; omega)]
theorem asks_find (s : ByteArray) (bc : Nat) (l : List It) (U : World) (hc : U.cell? ⟨bc, 0, none⟩ = some (.string s)) : Asks U 48 bc (isAt s) l :=
  ⟨enters_of Tryz.func48 (by kernel_rfl) rfl, fun x0 x1 x2 x3 x4 x5 x6 x7 _ W hW => find1_any x0 x1 x2 x3 x4 x5 x6 x7 s bc W (pw_cell_below hW hc)⟩
theorem asks_put1 (s : ByteArray) (bc : Nat) (l : List It) (U : World) (hc : U.cell? ⟨bc, 0, none⟩ = some (.string s)) : Asks U 57 bc (isAt s) l :=
  ⟨enters_of Tryz.func57 (by kernel_rfl) rfl, fun x0 x1 x2 x3 x4 x5 x6 x7 _ W hW => put1_any x0 x1 x2 x3 x4 x5 x6 x7 s bc W (pw_cell_below hW hc)⟩
theorem asks_put2 (s : ByteArray) (bc : Nat) (l : List It) (U : World) (hg : Glob U) (hs : s.size < 4294967281) (hl : Short l) (hc : U.cell? ⟨bc, 0, none⟩ = some (.string s)) : Asks U 58 bc (behind s) l :=
  ⟨enters_of Tryz.func58 (by kernel_rfl) rfl, fun x0 x1 x2 x3 x4 x5 x6 x7 hx W hW => put2_any x0 x1 x2 x3 x4 x5 x6 x7 s bc W (hg.below hW) (hl _ hx) hs (pw_cell_below hW hc)⟩
theorem asks_drop1 (s : ByteArray) (bc : Nat) (l : List It) (U : World) (hc : U.cell? ⟨bc, 0, none⟩ = some (.string s)) : Asks U 60 bc (fun x => underT x.1 s) l :=
  ⟨enters_of Tryz.func60 (by kernel_rfl) rfl, fun x0 x1 x2 x3 x4 x5 x6 x7 _ W hW => drop1_any x0 x1 x2 x3 x4 x5 x6 x7 s bc W (pw_cell_below hW hc)⟩
set_option maxHeartbeats 4000000 in
set_option maxRecDepth 100000 in
theorem drop_any (l : List It) (A : Option Addr) (c : Nat) (s : ByteArray) (W : World) (hl : ItemC W A l) (hn : l.length ≤ 1000000) :
    Calls Tryz.prog 25 #[.slice A l.length c, .string s] W fun e w' => ∃ v1, e = .returned v1 ∧ itemK.R 33 w' W.heap.size (fun _ => True) v1 (dropP l s) ∧ Below W.heap.size W w' := by
  have hb1 := below_one W (.cells #[.string s] 9)
  have hc1 : (W.alloc (.cells #[.string s] 9)).cell? ⟨W.heap.size, 0, none⟩ = some (.string s) := by rw [cell_of (heap_new W _)]; rfl
  have HB1 := Lib.hid hb1
  have HC1 := Lib.hid hc1
  have HCL := Lib.hid (clone_any l A c _ (Kd.C_below hl hb1) hn)
  clear hb1 hc1 hl
  go_enter Tryz.func25, Tryz.ntmps25
  go_wp2_with fail
  generalize W.alloc (.cells #[.string s] 9) = U at *
  generalize hbc : W.heap.size = bc at *
  refine HCL.out.mono ?_
  rintro e w2 ⟨v, rfl, hr, hb2⟩
  obtain ⟨A2, c2, hv⟩ := Kd.R_slice hr
  have HD := Lib.hid (delete_any U 60 bc (fun x => underT x.1 s) l v w2 hn hb2 hr (asks_drop1 s bc l U HC1.out))
  subst hv
  clear hr hb2 HCL
  go_wp2_with fail
  refine HD.out.mono ?_
  rintro e w3 ⟨v3, rfl, hr3, hb3⟩
  obtain ⟨A3, c3, hv⟩ := Kd.R_slice hr3
  have HR3 := Lib.hid hr3
  have HB3 := Lib.hid hb3
  clear hr3 hb3 HD
  generalize hN3 : (l.filter (fun x => !(fun x => underT x.1 s) x)).length = N3 at hv
  subst hv
  go_wp2
  go_ret
  subst hbc
  exact ⟨_, rfl, Kd.R_lower HR3.out HB1.out.size, below_next HB1.out HB3.out⟩
set_option maxHeartbeats 4000000 in
set_option maxRecDepth 100000 in
theorem sort_any (l : List It) (A : Option Addr) (c : Nat) (W : World) (hg : Glob W) (hl : ItemC W A l) (hn : l.length ≤ 1000000) (hs : Short l) :
    Calls Tryz.prog 27 #[.slice A l.length c] W fun e w' => ∃ v1, e = .returned v1 ∧ itemK.R 33 w' W.heap.size (fun _ => True) v1 (sortP l) ∧ Below W.heap.size W w' := by
  have HCL := Lib.hid (clone_any l A c W hl hn)
  have HG := Lib.hid hg
  have HS := Lib.hid hs
  clear hl hg hs
  go_enter Tryz.func27, Tryz.ntmps27
  go_wp2_with fail
  refine HCL.out.mono ?_
  rintro e w2 ⟨v, rfl, hr, hb2⟩
  clear HCL
  rcases row_cases hr with ⟨rfl, rfl⟩ | ⟨g, c2, rfl, hrow⟩
  · have HB2 := Lib.hid hb2
    clear hr hb2
    go_wp2_with fail
    refine (ssort_none 0 w2).mono ?_
    rintro e w3 ⟨rfl, rfl⟩
    go_wp2
    go_ret
    exact ⟨_, rfl, Kd.R_nil _ _ _ _ _, HB2.out⟩
  · have HSS := Lib.hid (ssort_any W HG.out g l.length c2 l w2 hn HS.out hb2 hrow)
    have HB2 := Lib.hid hb2
    have HNG := Lib.hid hrow.base
    clear hr hb2 hrow
    go_wp2_with fail
    refine HSS.out.mono ?_
    rintro e w3 ⟨rfl, h3, h4⟩
    have HR := Lib.hid h3.2
    have HB3 := Lib.hid (below_row HB2.out h4 HNG.out)
    clear h3 h4 HSS
    go_wp2
    go_ret
    exact ⟨_, rfl, HR.out, HB3.out⟩
set_option maxHeartbeats 8000000 in
set_option maxRecDepth 100000 in
theorem put_any (l : List It) (A : Option Addr) (c : Nat) (s : ByteArray) (kd mo ui gi mt at_ : Int) (da : ByteArray) (W : World) (hg : Glob W) (hl : ItemC W A l) (hn : l.length ≤ 1000000) (hs : Short l) (hp : s.size < 4294967281) :
    Calls Tryz.prog 23 #[.slice A l.length c, .string s, .agg #[.int .i64 kd, .int .u32 mo, .int .u32 ui, .int .u32 gi, .int .i64 mt, .int .i64 at_, .string da]] W fun e w' => ∃ v1, e = .returned v1 ∧ itemK.R 33 w' W.heap.size (fun _ => True) v1 (putP l (s, kd, mo, ui, gi, mt, at_, da)) ∧ Below W.heap.size W w' := by
  have hb1 : Below W.heap.size W ((W.alloc (.cells #[.string s] 9)).alloc (.cells #[.int .i64 kd, .int .u32 mo, .int .u32 ui, .int .u32 gi, .int .i64 mt, .int .i64 at_, .string da] 31)) := ((Below.refl _ _).alloc (Nat.le_refl _) _).alloc (by simp) _
  have hc1 : ((W.alloc (.cells #[.string s] 9)).alloc (.cells #[.int .i64 kd, .int .u32 mo, .int .u32 ui, .int .u32 gi, .int .i64 mt, .int .i64 at_, .string da] 31)).cell? ⟨W.heap.size, 0, none⟩ = some (.string s) := by
    rw [cell_of ((heap_alloc_old _ _ (by simp)).trans (heap_new W _))]; rfl
  have hh2 : ((W.alloc (.cells #[.string s] 9)).alloc (.cells #[.int .i64 kd, .int .u32 mo, .int .u32 ui, .int .u32 gi, .int .i64 mt, .int .i64 at_, .string da] 31)).heap[W.heap.size + 1]? = some (.cells #[.int .i64 kd, .int .u32 mo, .int .u32 ui, .int .u32 gi, .int .i64 mt, .int .i64 at_, .string da] 31) := by
    have := heap_new (W.alloc (.cells #[.string s] 9)) (.cells #[.int .i64 kd, .int .u32 mo, .int .u32 ui, .int .u32 gi, .int .i64 mt, .int .i64 at_, .string da] 31)
    rw [show (W.alloc (.cells #[.string s] 9)).heap.size = W.heap.size + 1 by simp] at this
    exact this
  have HB1 := Lib.hid hb1
  have HC1 := Lib.hid hc1
  have HH2 := Lib.hid hh2
  have HCL := Lib.hid (clone_any l A c _ (Kd.C_below hl hb1) hn)
  have HG := Lib.hid (hg.below hb1)
  have HS := Lib.hid hs
  have HP := Lib.hid hp
  clear hb1 hc1 hh2 hl hg hs hp
  go_enter Tryz.func23, Tryz.ntmps23
  go_wp2_with fail
  generalize (W.alloc (.cells #[.string s] 9)).alloc (.cells #[.int .i64 kd, .int .u32 mo, .int .u32 ui, .int .u32 gi, .int .i64 mt, .int .i64 at_, .string da] 31) = U at *
  generalize hbc : W.heap.size = bc at *
  refine HCL.out.mono ?_
  rintro e w2 ⟨v, rfl, hr, hb2⟩
  obtain ⟨A2, c2, hv⟩ := Kd.R_slice hr
  have HD := Lib.hid (delete_any U 57 bc (isAt s) l v w2 hn hb2 hr (asks_put1 s bc l U HC1.out))
  subst hv
  clear hr hb2 HCL
  go_wp2_with fail
  refine HD.out.mono ?_
  rintro e w3 ⟨v3, rfl, hr3, hb3⟩
  obtain ⟨o, ho⟩ : ∃ o, o = woP l s := ⟨_, rfl⟩
  have ho2 : l.filter (fun x => !isAt s x) = o := ho.symm
  rw [ho2] at hr3
  have hol : o.length ≤ l.length := by rw [ho]; exact List.length_filter_le _ _
  have hos : Short o := fun x hx => HS.out x (by rw [ho] at hx; exact (List.mem_filter.1 hx).1)
  obtain ⟨A3, c3, hv, hcap3, hC3⟩ := Kd.R_reads hr3
  have HIX := Lib.hid (index_any 58 bc (behind s) o A3 c3 w3 hC3 ((asks_put2 s bc o U HG.out HP.out hos HC1.out).later hb3))
  subst hv
  have HR3 := Lib.hid hr3
  have HB3 := Lib.hid hb3
  have HO := Lib.hid ho
  clear hr3 hb3 HD ho ho2 hC3
  go_wp2_with fail
  refine HIX.out.mono ?_
  rintro e w4 ⟨rfl, hb4⟩
  obtain ⟨i, hi⟩ : ∃ i, i = o.findIdx (behind s) := ⟨_, rfl⟩
  have hil : i ≤ o.length := by rw [hi]; exact List.findIdx_le_length
  have HR4 := Lib.hid (Kd.R_below HR3.out hb4)
  have HB4 := Lib.hid (below_next_ HB3.out hb4)
  have HPUT : Hid (o.take i ++ (s, kd, mo, ui, gi, mt, at_, da) :: o.drop i = putP l (s, kd, mo, ui, gi, mt, at_, da)) := Lib.hid (by rw [hi, HO.out]; rfl)
  have hi4 := (HB4.out.block (bc + 1) (by have := (Array.getElem?_eq_some_iff.1 HH2.out).1; exact this)).trans HH2.out
  have hc4 := pw_cell_below HB4.out HC1.out
  have n0 : w4.cell? ⟨bc + 1, 0, none⟩ = some (.int .i64 kd) := by rw [cell_of hi4]; rfl
  have n1 : w4.cell? ⟨bc + 1, 1, none⟩ = some (.int .u32 mo) := by rw [cell_of hi4]; rfl
  have n2 : w4.cell? ⟨bc + 1, 2, none⟩ = some (.int .u32 ui) := by rw [cell_of hi4]; rfl
  have n3 : w4.cell? ⟨bc + 1, 3, none⟩ = some (.int .u32 gi) := by rw [cell_of hi4]; rfl
  have n4 : w4.cell? ⟨bc + 1, 4, none⟩ = some (.int .i64 mt) := by rw [cell_of hi4]; rfl
  have n5 : w4.cell? ⟨bc + 1, 5, none⟩ = some (.int .i64 at_) := by rw [cell_of hi4]; rfl
  have n6 : w4.cell? ⟨bc + 1, 6, none⟩ = some (.string da) := by rw [cell_of hi4]; rfl
  have hb5 := below_one w4 (.cells #[.string s, .int .i64 kd, .int .u32 mo, .int .u32 ui, .int .u32 gi, .int .i64 mt, .int .i64 at_, .string da] 33)
  have HINS := Lib.hid (insert_any U (.slice A3 o.length c3) i w4.heap.size s kd mo ui gi mt at_ da o (w4.alloc (.cells #[.string s, .int .i64 kd, .int .u32 mo, .int .u32 ui, .int .u32 gi, .int .i64 mt, .int .i64 at_, .string da] 33)) (by omega) hil (below_next_ HB4.out hb5) (Kd.R_below HR4.out hb5) (heap_new w4 _) (fun e => by
    have := Kd.R_lt HR4.out _ e.symm
    omega))
  clear HIX HR3 HB3 HR4 HB4 hi4 hb4 hb5 HO
  by_cases hx : o.findIdx (behind s) < o.length
  · have e1 : idxP (behind s) o = (i : Int) := by unfold idxP; rw [if_pos hx, hi]
    rw [e1]
    have q0 : ¬ (i : Int) < 0 := by omega
    clear e1 hx hi
    go_wp2_with fail
    refine HINS.out.mono ?_
    rintro e w6 ⟨v6, rfl, h6, hb6⟩
    rw [HPUT.out] at h6
    obtain ⟨A6, c6, hv⟩ := Kd.R_slice h6
    have HR6 := Lib.hid h6
    have HB6 := Lib.hid hb6
    clear h6 hb6 HINS
    generalize hN6 : (putP l (s, kd, mo, ui, gi, mt, at_, da)).length = N6 at hv
    subst hv
    go_wp2
    go_ret
    subst hbc
    exact ⟨_, rfl, Kd.R_lower HR6.out HB1.out.size, below_next HB1.out HB6.out⟩
  · have e1 : idxP (behind s) o = -1 := by unfold idxP; rw [if_neg hx]
    have e2 : i = o.length := by omega
    rw [e1]
    subst e2
    clear e1 hx hi
    go_wp2_with fail
    refine HINS.out.mono ?_
    rintro e w6 ⟨v6, rfl, h6, hb6⟩
    rw [HPUT.out] at h6
    obtain ⟨A6, c6, hv⟩ := Kd.R_slice h6
    have HR6 := Lib.hid h6
    have HB6 := Lib.hid hb6
    clear h6 hb6 HINS
    generalize hN6 : (putP l (s, kd, mo, ui, gi, mt, at_, da)).length = N6 at hv
    subst hv
    go_wp2
    go_ret
    subst hbc
    exact ⟨_, rfl, Kd.R_lower HR6.out HB1.out.size, below_next HB1.out HB6.out⟩
set_option maxHeartbeats 8000000 in
set_option maxRecDepth 100000 in
theorem find_any (l : List It) (A : Option Addr) (c : Nat) (s : ByteArray) (W : World) (hl : ItemC W A l) (hn : l.length ≤ 1000000) :
    Calls Tryz.prog 17 #[.slice A l.length c, .string s] W fun e w' => e = .returned (.tuple #[aggN (nodeOf (findP l s)), .bool (findP l s).isSome]) ∧ Below W.heap.size W w' := by
  have hb1 : Below W.heap.size W ((W.alloc (.cells #[.string s] 9)).alloc (.cells #[.int .i64 0, .int .u32 0, .int .u32 0, .int .u32 0, .int .i64 0, .int .i64 0, .string ⟨#[]⟩] 31)) := ((Below.refl _ _).alloc (Nat.le_refl _) _).alloc (by simp) _
  have hc1 : ((W.alloc (.cells #[.string s] 9)).alloc (.cells #[.int .i64 0, .int .u32 0, .int .u32 0, .int .u32 0, .int .i64 0, .int .i64 0, .string ⟨#[]⟩] 31)).cell? ⟨W.heap.size, 0, none⟩ = some (.string s) := by
    rw [cell_of ((heap_alloc_old _ _ (by simp)).trans (heap_new W _))]; rfl
  have hh2 : ((W.alloc (.cells #[.string s] 9)).alloc (.cells #[.int .i64 0, .int .u32 0, .int .u32 0, .int .u32 0, .int .i64 0, .int .i64 0, .string ⟨#[]⟩] 31)).heap[W.heap.size + 1]? = some (.cells #[.int .i64 0, .int .u32 0, .int .u32 0, .int .u32 0, .int .i64 0, .int .i64 0, .string ⟨#[]⟩] 31) := by
    have := heap_new (W.alloc (.cells #[.string s] 9)) (.cells #[.int .i64 0, .int .u32 0, .int .u32 0, .int .u32 0, .int .i64 0, .int .i64 0, .string ⟨#[]⟩] 31)
    rw [show (W.alloc (.cells #[.string s] 9)).heap.size = W.heap.size + 1 by simp] at this
    exact this
  have HB1 := Lib.hid hb1
  have HH2 := Lib.hid hh2
  have HL := Lib.hid (Kd.C_below hl hb1)
  have HIX := Lib.hid (index_any 48 W.heap.size (isAt s) l A c _ (Kd.C_below hl hb1) (asks_find s W.heap.size l _ hc1))
  have HF := Lib.hid (show findP l s = if h : l.findIdx (isAt s) < l.length then some l[l.findIdx (isAt s)] else none from findIdx_find _ _)
  clear hb1 hc1 hh2 hl
  go_enter Tryz.func17, Tryz.ntmps17
  go_wp2_with fail
  generalize (W.alloc (.cells #[.string s] 9)).alloc (.cells #[.int .i64 0, .int .u32 0, .int .u32 0, .int .u32 0, .int .i64 0, .int .i64 0, .string ⟨#[]⟩] 31) = U at *
  generalize hbc : W.heap.size = bc at *
  refine HIX.out.mono ?_
  rintro e w2 ⟨rfl, hb2⟩
  have HB2 := Lib.hid (Below.trans HB1.out (hb2.mono (by rw [← hbc]; exact HB1.out.size)))
  have HN := Lib.hid ((hb2.block (bc + 1) (Array.getElem?_eq_some_iff.1 HH2.out).1).trans HH2.out)
  have HL2 := Lib.hid (Kd.C_below HL.out hb2)
  clear hb2 HIX HL HB1 HH2
  have c0 : w2.cell? ⟨bc + 1, 0, none⟩ = some (.int .i64 0) := by rw [cell_of HN.out]; rfl
  have z0 := frozen_of HN.out 0
  have c1 : w2.cell? ⟨bc + 1, 1, none⟩ = some (.int .u32 0) := by rw [cell_of HN.out]; rfl
  have z1 := frozen_of HN.out 1
  have c2 : w2.cell? ⟨bc + 1, 2, none⟩ = some (.int .u32 0) := by rw [cell_of HN.out]; rfl
  have z2 := frozen_of HN.out 2
  have c3 : w2.cell? ⟨bc + 1, 3, none⟩ = some (.int .u32 0) := by rw [cell_of HN.out]; rfl
  have z3 := frozen_of HN.out 3
  have c4 : w2.cell? ⟨bc + 1, 4, none⟩ = some (.int .i64 0) := by rw [cell_of HN.out]; rfl
  have z4 := frozen_of HN.out 4
  have c5 : w2.cell? ⟨bc + 1, 5, none⟩ = some (.int .i64 0) := by rw [cell_of HN.out]; rfl
  have z5 := frozen_of HN.out 5
  have c6 : w2.cell? ⟨bc + 1, 6, none⟩ = some (.string ⟨#[]⟩) := by rw [cell_of HN.out]; rfl
  have z6 := frozen_of HN.out 6
  by_cases hx : l.findIdx (isAt s) < l.length
  · obtain ⟨i, hi⟩ : ∃ i, i = l.findIdx (isAt s) := ⟨_, rfl⟩
    have e1 : idxP (isAt s) l = (i : Int) := by unfold idxP; rw [if_pos hx, hi]
    rw [e1]
    have hil : i < l.length := by rw [hi]; exact hx
    have hf : findP l s = some l[i] := by
      rw [HF.out, dif_pos hx]
      simp only [hi]
    have HFE := Lib.hid hf
    obtain ⟨ad, rfl, e0, e1', e2, e3, e4, e5, e6, e7⟩ := item_at HL2.out hil
    have hiI : (i : Int) < (l.length : Int) := by omega
    have q0 : ¬ (i : Int) < 0 := by omega
    generalize l[i] = x at *
    obtain ⟨x0, x1, x2, x3, x4, x5, x6, x7⟩ := x
    simp only at e0 e1' e2 e3 e4 e5 e6 e7
    clear e1 hx hi HF hf
    go_wp2
    refine bodyPost_ret (results_row_tmp (ty := 31) rfl _ _ (bc + 1) _ _ _ _ rfl (node_put HN.out _ _ _ _ _ _ _) Tryz.underlying31 rfl sizeNode) rfl ?_
    subst hbc
    exact ⟨by rw [HFE.out]; rfl, node_below HB2.out (Nat.le_refl _) (Nat.le_succ _) _ _ _ _ _ _ _⟩
  · have e1 : idxP (isAt s) l = -1 := by unfold idxP; rw [if_neg hx]
    rw [e1]
    have hf : findP l s = none := by rw [HF.out, dif_neg hx]
    have HFE := Lib.hid hf
    clear e1 hx HF hf
    go_wp2
    refine bodyPost_ret (results_row_tmp (ty := 31) rfl _ _ (bc + 1) _ _ _ _ rfl (node_put HN.out _ _ _ _ _ _ _) Tryz.underlying31 rfl sizeNode) rfl ?_
    subst hbc
    exact ⟨by rw [HFE.out]; rfl, node_below HB2.out (Nat.le_refl _) (Nat.le_succ _) _ _ _ _ _ _ _⟩
end Go.Proofs.YtpjjooiamdfmfaaGreatDoor.Tree
