/- tree: Find, Drop, Sort, Put. -/
import Derived.Test.YtibmfjacfbpfgaaGreatDoorTreeQ
import Derived.Test.YtibmfjacfbpfgaaGreatDoorNodeRes
import Derived.Test.YtibmfjacfbpfgaaGreatDoorSort
set_option linter.unusedVariables false
set_option linter.unusedSimpArgs false
namespace Go.Proofs.YtibmfjacfbpfgaaGreatDoor.Tree
open Go.RowKit YtibmfjacfbpfgaaGreatDoorW.PrintWords YtibmfjacfbpfgaaGreatDoorW.PrintLast YtibmfjacfbpfgaaGreatDoorW.PrintMore YtibmfjacfbpfgaaGreatDoor.Item Own TreeLaw NameWalk NameOrd SortSwap SortIns Go.Proofs.YtibmfjacfbpfgaaGreatDoor.Sort TreeFn TreeDel TreeIns NodeRes
theorem asks_put1 (s : ByteArray) (bc : Nat) (l : List It) (U : World) (hc : U.cell? ⟨bc, 0, none⟩ = some (.string s)) : Asks U 112 bc (isAt s) l :=
 ⟨enters_of Tryz.func112 (by kernel_rfl) rfl, fun x0 x1 x2 x3 x4 x5 x6 x7 _ W hW => put1_any x0 x1 x2 x3 x4 x5 x6 x7 s bc W (pw_cell_below hW hc)⟩
theorem asks_put2 (s : ByteArray) (bc : Nat) (l : List It) (U : World) (hg : Glob U) (hs : s.size < 4294967281) (hl : Short l) (hc : U.cell? ⟨bc, 0, none⟩ = some (.string s)) : Asks U 114 bc (behind s) l :=
 ⟨enters_of Tryz.func114 (by kernel_rfl) rfl, fun x0 x1 x2 x3 x4 x5 x6 x7 hx W hW => put2_any x0 x1 x2 x3 x4 x5 x6 x7 s bc W (hg.below hW) (hl _ hx) hs (pw_cell_below hW hc)⟩
set_option maxHeartbeats 4000000 in
set_option maxRecDepth 100000 in
theorem sort_any (l : List It) (A : Option Addr) (c : Nat) (W : World) (hg : Glob W) (hl : ItemC W A l) (hn : l.length ≤ 1000000) (hs : Short l) :
  Calls Tryz.prog 79 #[.slice A l.length c] W fun e w' => ∃ v1, e = .returned v1 ∧ itemK.R 77 w' W.heap.size (fun _ => True) v1 (sortP l) ∧ Below W.heap.size W w' := by
 have HCL := Lib.hid (clone_any l A c W hl hn)
 have HG := Lib.hid hg
 have HS := Lib.hid hs
 clear hl hg hs
 go_enter Tryz.func79, Tryz.ntmps79
 go_wp2_with fail
 refine HCL.out.mono ?_
 rintro e w2 ⟨v, rfl, hr, hb2⟩
 clear HCL
 rcases row_cases hr with ⟨rfl, rfl⟩ | ⟨g, c2, rfl, hrow⟩
 ·
  have HB2 := Lib.hid hb2
  clear hr hb2
  go_wp2_with fail
  refine (ssort_none 0 w2).mono ?_
  rintro e w3 ⟨rfl, rfl⟩
  go_wp2
  go_ret
  exact ⟨_, rfl, Kd.R_nil _ _ _ _ _, HB2.out⟩
 ·
  have HSS := Lib.hid (ssort_any W HG.out g l.length c2 l w2 hn HS.out hb2 hrow)
  have HB2 := Lib.hid hb2
  have HNG := Lib.hid hrow.base
  clear hr hb2 hrow
  go_wp2_with fail
  refine HSS.out.mono ?_
  rintro e w3 ⟨rfl, h3, h4⟩
  have HR := Lib.hid h3.2
  have HB3 := Lib.hid (below_row HB2.out h4 HNG.out)
  clear h3 h4 HSS
  go_wp2
  go_ret
  exact ⟨_, rfl, HR.out, HB3.out⟩
set_option maxHeartbeats 8000000 in
set_option maxRecDepth 100000 in
theorem put_any (l : List It) (A : Option Addr) (c : Nat) (s : ByteArray) (kd mo ui gi mt at_ : Int) (da : ByteArray) (W : World) (hg : Glob W) (hl : ItemC W A l) (hn : l.length ≤ 1000000) (hs : Short l) (hp : s.size < 4294967281) :
  Calls Tryz.prog 81 #[.slice A l.length c, .string s, .agg #[.int .i64 kd, .int .u32 mo, .int .u32 ui, .int .u32 gi, .int .i64 mt, .int .i64 at_, .string da]] W fun e w' => ∃ v1, e = .returned v1 ∧ itemK.R 77 w' W.heap.size (fun _ => True) v1 (putP l (s, kd, mo, ui, gi, mt, at_, da)) ∧ Below W.heap.size W w' := by
 have hb1 : Below W.heap.size W ((W.alloc (.cells #[.string s] 9)).alloc (.cells #[.int .i64 kd, .int .u32 mo, .int .u32 ui, .int .u32 gi, .int .i64 mt, .int .i64 at_, .string da] 34)) := ((Below.refl _ _).alloc (Nat.le_refl _) _).alloc (by simp) _
 have hc1 : ((W.alloc (.cells #[.string s] 9)).alloc (.cells #[.int .i64 kd, .int .u32 mo, .int .u32 ui, .int .u32 gi, .int .i64 mt, .int .i64 at_, .string da] 34)).cell? ⟨W.heap.size, 0, none⟩ = some (.string s) := by
  rw [cell_of ((heap_alloc_old _ _ (by simp)).trans (heap_new W _))]; rfl
 have hh2 : ((W.alloc (.cells #[.string s] 9)).alloc (.cells #[.int .i64 kd, .int .u32 mo, .int .u32 ui, .int .u32 gi, .int .i64 mt, .int .i64 at_, .string da] 34)).heap[W.heap.size + 1]? = some (.cells #[.int .i64 kd, .int .u32 mo, .int .u32 ui, .int .u32 gi, .int .i64 mt, .int .i64 at_, .string da] 34) := by
  have := heap_new (W.alloc (.cells #[.string s] 9)) (.cells #[.int .i64 kd, .int .u32 mo, .int .u32 ui, .int .u32 gi, .int .i64 mt, .int .i64 at_, .string da] 34)
  rw [show (W.alloc (.cells #[.string s] 9)).heap.size = W.heap.size + 1 by simp] at this
  exact this
 have HB1 := Lib.hid hb1
 have HC1 := Lib.hid hc1
 have HH2 := Lib.hid hh2
 have HCL := Lib.hid (clone_any l A c _ (Kd.C_below hl hb1) hn)
 have HG := Lib.hid (hg.below hb1)
 have HS := Lib.hid hs
 have HP := Lib.hid hp
 clear hb1 hc1 hh2 hl hg hs hp
 go_enter Tryz.func81, Tryz.ntmps81
 go_wp2_with fail
 generalize (W.alloc (.cells #[.string s] 9)).alloc (.cells #[.int .i64 kd, .int .u32 mo, .int .u32 ui, .int .u32 gi, .int .i64 mt, .int .i64 at_, .string da] 34) = U at *
 generalize hbc : W.heap.size = bc at *
 refine HCL.out.mono ?_
 rintro e w2 ⟨v, rfl, hr, hb2⟩
 obtain ⟨A2, c2, hv⟩ := Kd.R_slice hr
 have HD := Lib.hid (delete_any U 112 bc (isAt s) l v w2 hn hb2 hr (asks_put1 s bc l U HC1.out))
 subst hv
 clear hr hb2 HCL
 go_wp2_with fail
 refine HD.out.mono ?_
 rintro e w3 ⟨v3, rfl, hr3, hb3⟩
 obtain ⟨o, ho⟩ : ∃ o, o = woP l s := ⟨_, rfl⟩
 have ho2 : l.filter (fun x => !isAt s x) = o := ho.symm
 rw [ho2] at hr3
 have hol : o.length ≤ l.length := by rw [ho]; exact List.length_filter_le _ _
 have hos : Short o := fun x hx => HS.out x (by rw [ho] at hx; exact (List.mem_filter.1 hx).1)
 obtain ⟨A3, c3, hv, hcap3, hC3⟩ := Kd.R_reads hr3
 have HIX := Lib.hid (index_any 114 bc (behind s) o A3 c3 w3 hC3 ((asks_put2 s bc o U HG.out HP.out hos HC1.out).later hb3))
 subst hv
 have HR3 := Lib.hid hr3
 have HB3 := Lib.hid hb3
 have HO := Lib.hid ho
 clear hr3 hb3 HD ho ho2 hC3
 go_wp2_with fail
 refine HIX.out.mono ?_
 rintro e w4 ⟨rfl, hb4⟩
 obtain ⟨i, hi⟩ : ∃ i, i = o.findIdx (behind s) := ⟨_, rfl⟩
 have hil : i ≤ o.length := by rw [hi]; exact List.findIdx_le_length
 have HR4 := Lib.hid (Kd.R_below HR3.out hb4)
 have HB4 := Lib.hid (below_next_ HB3.out hb4)
 have HPUT : Hid (o.take i ++ (s, kd, mo, ui, gi, mt, at_, da) :: o.drop i = putP l (s, kd, mo, ui, gi, mt, at_, da)) := Lib.hid (by rw [hi, HO.out]; rfl)
 have hi4 := (HB4.out.block (bc + 1) (by have := (Array.getElem?_eq_some_iff.1 HH2.out).1; exact this)).trans HH2.out
 have hc4 := pw_cell_below HB4.out HC1.out
 have n0 : w4.cell? ⟨bc + 1, 0, none⟩ = some (.int .i64 kd) := by rw [cell_of hi4]; rfl
 have n1 : w4.cell? ⟨bc + 1, 1, none⟩ = some (.int .u32 mo) := by rw [cell_of hi4]; rfl
 have n2 : w4.cell? ⟨bc + 1, 2, none⟩ = some (.int .u32 ui) := by rw [cell_of hi4]; rfl
 have n3 : w4.cell? ⟨bc + 1, 3, none⟩ = some (.int .u32 gi) := by rw [cell_of hi4]; rfl
 have n4 : w4.cell? ⟨bc + 1, 4, none⟩ = some (.int .i64 mt) := by rw [cell_of hi4]; rfl
 have n5 : w4.cell? ⟨bc + 1, 5, none⟩ = some (.int .i64 at_) := by rw [cell_of hi4]; rfl
 have n6 : w4.cell? ⟨bc + 1, 6, none⟩ = some (.string da) := by rw [cell_of hi4]; rfl
 have hb5 := below_one w4 (.cells #[.string s, .int .i64 kd, .int .u32 mo, .int .u32 ui, .int .u32 gi, .int .i64 mt, .int .i64 at_, .string da] 77)
 have HINS := Lib.hid (insert_any U (.slice A3 o.length c3) i w4.heap.size s kd mo ui gi mt at_ da o (w4.alloc (.cells #[.string s, .int .i64 kd, .int .u32 mo, .int .u32 ui, .int .u32 gi, .int .i64 mt, .int .i64 at_, .string da] 77)) (by omega) hil (below_next_ HB4.out hb5) (Kd.R_below HR4.out hb5) (heap_new w4 _) (fun e => by
  have := Kd.R_lt HR4.out _ e.symm
  omega))
 clear HIX HR3 HB3 HR4 HB4 hi4 hb4 hb5 HO
 by_cases hx : o.findIdx (behind s) < o.length
 ·
  have e1 : idxP (behind s) o = (i : Int) := by unfold idxP; rw [if_pos hx, hi]
  rw [e1]
  have q0 : ¬ (i : Int) < 0 := by omega
  clear e1 hx hi
  go_wp2_with fail
  refine HINS.out.mono ?_
  rintro e w6 ⟨v6, rfl, h6, hb6⟩
  rw [HPUT.out] at h6
  obtain ⟨A6, c6, hv⟩ := Kd.R_slice h6
  have HR6 := Lib.hid h6
  have HB6 := Lib.hid hb6
  clear h6 hb6 HINS
  generalize hN6 : (putP l (s, kd, mo, ui, gi, mt, at_, da)).length = N6 at hv
  subst hv
  go_wp2
  go_ret
  subst hbc
  exact ⟨_, rfl, Kd.R_lower HR6.out HB1.out.size, below_next HB1.out HB6.out⟩
 ·
  have e1 : idxP (behind s) o = -1 := by unfold idxP; rw [if_neg hx]
  have e2 : i = o.length := by omega
  rw [e1]
  subst e2
  clear e1 hx hi
  go_wp2_with fail
  refine HINS.out.mono ?_
  rintro e w6 ⟨v6, rfl, h6, hb6⟩
  rw [HPUT.out] at h6
  obtain ⟨A6, c6, hv⟩ := Kd.R_slice h6
  have HR6 := Lib.hid h6
  have HB6 := Lib.hid hb6
  clear h6 hb6 HINS
  generalize hN6 : (putP l (s, kd, mo, ui, gi, mt, at_, da)).length = N6 at hv
  subst hv
  go_wp2
  go_ret
  subst hbc
  exact ⟨_, rfl, Kd.R_lower HR6.out HB1.out.size, below_next HB1.out HB6.out⟩
end Go.Proofs.YtibmfjacfbpfgaaGreatDoor.Tree
