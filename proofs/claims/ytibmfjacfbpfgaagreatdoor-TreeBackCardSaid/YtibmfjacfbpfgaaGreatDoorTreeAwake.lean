/- law 16's example: a file in a directory that nobody told, filled. -/
import Derived.Test.YtibmfjacfbpfgaaGreatDoorTreeFill
set_option linter.unusedVariables false
set_option linter.unusedSimpArgs false
namespace Go.Proofs.YtibmfjacfbpfgaaGreatDoor.TreeAwake
open Go.RowKit YtibmfjacfbpfgaaGreatDoorW.PrintWords YtibmfjacfbpfgaaGreatDoorW.PrintLast YtibmfjacfbpfgaaGreatDoorW.PrintMore YtibmfjacfbpfgaaGreatDoor.Item Own TreeLaw NameLaw NameWalk NameOrd NameRef NameUse SortIns TreeFn NodeRes Tree TreeRight TreeTright FillLaw TreeFill
theorem item_one {W : World} {b : Nat} {x : It} {fr : Nat × Nat} (h : W.heap[b]? = some (.cells (cellsI x).toArray 77 fr)) : ItemC W (some ⟨b, 0, none⟩) [x] :=
 ⟨rfl, by simp, fun _ => ⟨_, rfl, fun j p hj => by
  cases j with
  | succ j => simp at hj
  | zero =>
   have : x = p := by simpa using hj
   subst this
   exact ⟨cellsI x, rfl, itemK_mk _ _, fun i u hu => by
    rw [Addr.add_lit, cell_of h]
    simpa using hu⟩⟩⟩
abbrev sAB : ByteArray := ⟨#[97, 47, 98]⟩
abbrev sA1 : ByteArray := ⟨#[97]⟩
abbrev iAB : It := (sAB, 2, 0, 0, 0, 0, 0, ⟨#[]⟩)
abbrev iA : It := (sA1, 1, 0, 0, 0, 0, 0, ⟨#[]⟩)
theorem aw0 : fillP [iAB] (1, 0, 0, 0, 0, 0, ⟨#[]⟩) = ([iA, iAB], true) := by kernel_rfl
theorem awR : RightP [iA, iAB] := fun k x h => by
 match k, h with
 | 0, h =>
  have : iA = x := by simpa using h
  subst this
  show stepOk [iA, iAB] 0 iA = true
  kernel_rfl
 | 1, h =>
  have : iAB = x := by simpa using h
  subst this
  show stepOk [iA, iAB] 1 iAB = true
  kernel_rfl
 | k + 2, h => simp at h
theorem aw1 : right16 [iA, iAB] = true := by
 unfold right16 rightB
 rw [Bool.and_eq_true]
 exact ⟨by kernel_rfl, @decide_eq_true _ (Classical.propDecidable _) awR⟩
set_option maxHeartbeats 1000000 in
theorem awake_any (w : World) (hg : Glob w) : Calls Tryz.prog 37 #[] w fun e w' => e = .returned (.bool true) ∧ Below w.heap.size w w' := by
 have hb2 := below_one w (.cells #[.string ⟨#[97, 47, 98]⟩, .int .i64 2, .int .u32 0, .int .u32 0, .int .u32 0, .int .i64 0, .int .i64 0, .string ⟨#[]⟩] 77)
 have HF := Lib.hid (fill_any [iAB] (some ⟨w.heap.size, 0, none⟩) 1 1 0 0 0 0 0 ⟨#[]⟩ (w.alloc (.cells #[.string ⟨#[97, 47, 98]⟩, .int .i64 2, .int .u32 0, .int .u32 0, .int .u32 0, .int .i64 0, .int .i64 0, .string ⟨#[]⟩] 77)) (hg.below hb2) (item_one (heap_new w _)) (by simp) (by intro x hx; simp at hx; subst hx; decide))
 have HB2 := Lib.hid hb2
 have HG2 := Lib.hid (hg.below hb2)
 rw [aw0] at HF
 clear hb2 hg
 go_enter Tryz.func37, Tryz.ntmps37
 go_wp2_with fail
 refine HF.out.mono ?_
 rintro e w2 ⟨A2, c2, rfl, hT, hb⟩
 have HB := Lib.hid (below_next HB2.out hb)
 have HG := Lib.hid (HG2.out.below hb)
 obtain ⟨ad, rfl, e0, e1, e2, e3, e4, e5, e6, e7⟩ := item_at hT (k := 0) (by simp)
 have HR := Lib.hid (tright_any [iA, iAB] (some ad) c2 w2 HG.out hT (by simp) (by intro x hx; simp at hx; rcases hx with e | e <;> (subst e; decide)))
 rw [aw1] at HR
 have e0' : w2.cell? ad = some (.string ⟨#[97]⟩) := by
  have : ad.add (0 * 8) = ad := by rw [Nat.zero_mul]; exact if_pos rfl
  rw [this] at e0
  exact e0
 clear hT hb HF e0 e1 e2 e3 e4 e5 e6 e7
 go_wp2_with fail
 refine HR.out.mono ?_
 rintro e w3 ⟨rfl, hb⟩
 have HB3 := Lib.hid (below_next HB.out hb)
 clear hb
 go_wp2
 go_ret
 exact ⟨rfl, HB3.out⟩
end Go.Proofs.YtibmfjacfbpfgaaGreatDoor.TreeAwake
