/- name.Order: the world behind it, as an equation: what slices.SortFunc's contract asks of its comparison. -/
import Derived.Test.YtibmfjacfbpfgaaGreatDoorNameUse
import Derived.Test.YtibmfjacfbpfgaaGreatDoorOwn
import Derived.Shelf.SlSortCmp.NoneTotal
set_option linter.unusedVariables false
set_option linter.unusedSimpArgs false
namespace Go.Proofs.YtibmfjacfbpfgaaGreatDoor.OrderEq
open Go.RowKit YtibmfjacfbpfgaaGreatDoorW.PrintWords YtibmfjacfbpfgaaGreatDoorW.PrintLast NameLaw NameCmp NameWalk Go.Sort
/-- Draws and new blocks, and nothing else. -/
def GrowEq (w w' : World) : Prop := ∃ q os, w' = grow (w.drewN q) os
theorem GrowEq.refl (w : World) : GrowEq w w := ⟨0, #[], by rw [grow_empty]; rfl⟩
theorem GrowEq.trans {a b c : World} (h : GrowEq a b) (k : GrowEq b c) : GrowEq a c := by
 obtain ⟨q, os, rfl⟩ := h
 obtain ⟨q2, os2, rfl⟩ := k
 refine ⟨q + q2, os ++ os2, ?_⟩
 have e : (grow (a.drewN q) os).drewN q2 = grow ((a.drewN q).drewN q2) os := rfl
 rw [e, grow_grow, World.drewN_drewN]
theorem GrowEq.alloc (w : World) (o : Obj) : GrowEq w (w.alloc o) := ⟨0, #[o], alloc_eq_grow w o⟩
theorem GrowEq.drawn {w w' : World} (h : Drawn0 w w') : GrowEq w w' := by
 obtain ⟨n, rfl⟩ := h
 exact ⟨n, #[], by rw [grow_empty]⟩
theorem GrowEq.below {w w' : World} (h : GrowEq w w') : Below w.heap.size w w' := by
 obtain ⟨q, os, rfl⟩ := h
 exact ⟨rfl, rfl, rfl, by simp [grow], fun k hk => by simp [grow, Array.getElem?_append, hk]⟩
def PartsEq (p : ByteArray) (w : World) (e : Ending) (w' : World) : Prop :=
 ∃ A c, e = .returned (.slice A (partsT p).length c) ∧ StrsAt w' A (partsT p) ∧ GrowEq w w'
set_option maxHeartbeats 400000 in
theorem parts_eq (p : ByteArray) (w : World) (hg : Glob w) (hp : p.size < 4294967281) : Calls Tryz.prog 56 #[.string p] w (PartsEq p w) := by
 by_cases h0 : p.toList = []
 ·
  have hz : partsT p = [] := by
   unfold partsT partsL
   rw [if_pos (by rw [← Lib.toList_data]; exact h0)]; rfl
  have HZ := Lib.hid hz
  clear hz
  go_enter Tryz.func56, Tryz.ntmps56
  go_wp2
  go_ret
  exact ⟨none, 0, by rw [HZ.out]; rfl, by rw [HZ.out]; exact ⟨by simp, fun h => absurd h (by simp)⟩, GrowEq.refl _⟩
 ·
  have hz : partsT p = splitT p := by
   unfold partsT partsL splitT
   rw [if_neg (by rw [← Lib.toList_data]; exact h0)]
  have HZ := Lib.hid hz
  have HL := Lib.hid (splitT_length p)
  have HG := Lib.hid hg
  have hd : (!p.toList.isEmpty) = true := by simp [h0]
  have hd2 : p.toList.isEmpty = false := by simp [h0]
  clear hz hg
  go_enter Tryz.func56, Tryz.ntmps56
  go_wp2_with (go_at_call 88; refine (split_any _ _ HG.out (by omega)).mono ?_; rintro e w' ⟨rfl, rfl⟩)
  go_ret
  exact ⟨_, _, by rw [HZ.out]; rfl, by rw [HZ.out]; exact strs_new _ _ _ (by have := HL.out; omega), GrowEq.alloc _ _⟩
set_option maxHeartbeats 400000 in
theorem order_eq (a b : ByteArray) (w : World) (hg : Glob w) (ha : a.size < 4294967281) (hb : b.size < 4294967281) :
  Calls Tryz.prog 83 #[.string a, .string b] w fun e w' => e = .returned (.int .i64 (orderT a b)) ∧ GrowEq w w' := by
 have hR : orderT a b = cmpPB (partsT a) (partsT b) := by
  rw [cmpPB_data, partsT_data, partsT_data]; rfl
 rw [hR]
 have HG := Lib.hid hg
 clear hg hR
 go_enter Tryz.func83, Tryz.ntmps83
 go_wp2_with fail
 refine (parts_eq a _ HG.out (by omega)).mono ?_
 rintro e w1 ⟨A, c, rfl, hs1, hb1⟩
 have HG1 := Lib.hid (HG.out.below hb1.below)
 have HS1 := Lib.hid hs1
 have HB1 := Lib.hid hb1
 clear hs1 hb1
 go_wp2_with fail
 refine (parts_eq b _ HG1.out (by omega)).mono ?_
 rintro e w2 ⟨B, d, rfl, hs2, hb2⟩
 have HS1b := Lib.hid (HS1.out.below hb2.below)
 have HS2 := Lib.hid hs2
 have HB2 := Lib.hid (HB1.out.trans hb2)
 clear hs2 hb2
 go_wp2_with fail
 refine (scompare_any A B c d _ _ _ HS1b.out HS2.out).mono ?_
 rintro e w3 ⟨rfl, hd⟩
 have HB3 := Lib.hid (HB2.out.trans (GrowEq.drawn hd))
 clear hd
 go_wp2
 go_ret
 exact ⟨rfl, HB3.out⟩
/-! ### the sort -/
/-- A path that is no longer than may be. -/
abbrev Pth := { b : ByteArray // b.size ≤ 10000 }
instance : Inhabited Pth := ⟨⟨ByteArray.empty, by decide⟩⟩
abbrev encP (x : Pth) : Value := .string x.1
abbrev cfP (x y : Pth) : Int := orderT x.1 y.1
theorem glob_sort {W0 w : World} (hg : Glob W0) (hb : Below W0.heap.size W0 w) {blk : Nat} (hblk : W0.heap.size ≤ blk) (off m : Nat) (d : Array Pth) (os : Array Obj) : Below W0.heap.size W0 (sortWorld encP w blk off m d os) := by
 refine hb.trans ⟨rfl, rfl, rfl, by simp [sortWorld, grow, putRow, mapBlock, Sort.ahead], fun k hk => ?_⟩
 have h1 : k < w.heap.size := Nat.lt_of_lt_of_le hk hb.size
 unfold sortWorld
 rw [heap_grow_old _ _ (by simpa [putRow, mapBlock, Sort.ahead] using h1)]
 have : blk ≠ k := by omega
 simp [putRow, mapBlock, Sort.ahead, Array.getElem?_modify, this]
theorem cmpP_lays {W0 w : World} (hg : Glob W0) (hb : Below W0.heap.size W0 w) {blk : Nat} (hblk : W0.heap.size ≤ blk) (off size : Nat) : CmpLays1 Tryz.prog 83 #[] encP cfP blk off size w := by
 intro m os dk hs x y
 have h1 := x.2
 have h2 := y.2
 exact order_eq x.1 y.1 _ (hg.below (glob_sort hg hb hblk off m dk os)) (by omega) (by omega)
end Go.Proofs.YtibmfjacfbpfgaaGreatDoor.OrderEq
