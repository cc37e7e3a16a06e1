/- tail.Print of an archive without entries; denote.Print of nothing; law 21's example. -/
import Derived.Test.YtpjjooiamdfmfaaGreatDoorBldS
import Derived.Test.YtpjjooiamdfmfaaGreatDoorOwn
import Derived.Shelf.Strings.MapGrows
import Derived.Test.YtpjjooiamdfmfaaGreatDoorPNmx18
import Derived.Test.YtpjjooiamdfmfaaGreatDoorPNmx19
set_option linter.unusedVariables false
set_option linter.unusedSimpArgs false
namespace Go.Proofs.YtpjjooiamdfmfaaGreatDoor.Tail0
open Go.RowKit Go.Proofs.YtpjjooiamdfmfaaGreatDoorW.PrintWords Go.Proofs.YtpjjooiamdfmfaaGreatDoorW.PrintLast Go.Proofs.YtpjjooiamdfmfaaGreatDoorW.PrintMore Go.Proofs.YtpjjooiamdfmfaaGreatDoor.Item Go.Proofs.YtpjjooiamdfmfaaGreatDoor.Own Go.Proofs.YtpjjooiamdfmfaaGreatDoor.BldS

theorem below_next_ {U W W1 : World} (h : Below U.heap.size U W) (k : Below W.heap.size W W1) : Below U.heap.size U W1 := h.trans (k.mono h.size)
theorem isb_below {T e : TypeId} {B b : Nat} {bs : List Value} {W W' : World} (h : Lib.IsBuilderF T e B b bs W) (hb : Below W.heap.size W W') : Lib.IsBuilderF T e B b bs W' := Lib.IsBuilderF.below h hb
theorem isb_lt {T e : TypeId} {B b : Nat} {bs : List Value} {W : World} (h : Lib.IsBuilderF T e B b bs W) : b < W.heap.size := by
  obtain ⟨_, v, hv, _⟩ | ⟨_, v, hv, _⟩ := h
  · exact (Array.getElem?_eq_some_iff.1 hv).1
  · exact (Array.getElem?_eq_some_iff.1 hv).1
theorem two0 (w : World) : Calls Tryz.prog 122 #[.int .u16 0] w fun e w' => e = .returned (.string ⟨#[0, 0]⟩) ∧ Below w.heap.size w w' := PNm.cursor_Two.calls 100 0 _ w (by kernel_rfl)
theorem four0 (w : World) : Calls Tryz.prog 123 #[.int .u32 0] w fun e w' => e = .returned (.string ⟨#[0, 0, 0, 0]⟩) ∧ Below w.heap.size w w' := PNm.cursor_Four.calls 100 0 _ w (by kernel_rfl)
set_option maxHeartbeats 4000000 in
set_option maxRecDepth 100000 in
theorem tail0 (w : World) : Calls Tryz.prog 72 #[.agg #[.int .i64 0, .int .u64 0, .int .u64 0, .int .u64 0, .string ByteArray.empty, .bool false]] w fun e w' => e = .returned (.tuple #[.string ⟨[80, 75, 5, 6, 0, 0, 0, 0, 0, 0, 0, 0, 0, 0, 0, 0, 0, 0, 0, 0, 0, 0].toArray⟩, .int .i64 0]) ∧ Below w.heap.size w w' := by
  have hb1 := below_one w (.cells #[.int .i64 0, .int .u64 0, .int .u64 0, .int .u64 0, .string ByteArray.empty, .bool false] 102)
  have hb2 := below_one (w.alloc (.cells #[.int .i64 0, .int .u64 0, .int .u64 0, .int .u64 0, .string ByteArray.empty, .bool false] 102)) (.cells #[.pointer none, .slice none 0 0] 87)
  have HB1 := Lib.hid (below_next_ hb1 hb2)
  have HX1 := Lib.hid ((hb2.block w.heap.size (by simp)).trans (heap_new w (.cells #[.int .i64 0, .int .u64 0, .int .u64 0, .int .u64 0, .string ByteArray.empty, .bool false] 102)))
  have hi : Lib.IsBuilderF 87 5 (w.alloc (.cells #[.int .i64 0, .int .u64 0, .int .u64 0, .int .u64 0, .string ByteArray.empty, .bool false] 102)).heap.size (w.alloc (.cells #[.int .i64 0, .int .u64 0, .int .u64 0, .int .u64 0, .string ByteArray.empty, .bool false] 102)).heap.size (Lib.byteCells []) ((w.alloc (.cells #[.int .i64 0, .int .u64 0, .int .u64 0, .int .u64 0, .string ByteArray.empty, .bool false] 102)).alloc (.cells #[.pointer none, .slice none 0 0] 87)) := Lib.IsBuilderF.of (Lib.fresh_isBuilder _ _ _)
  rw [show (w.alloc (.cells #[.int .i64 0, .int .u64 0, .int .u64 0, .int .u64 0, .string ByteArray.empty, .bool false] 102)).heap.size = w.heap.size + 1 by simp] at hi
  have HI1 : Hid (Lib.IsBuilderF 87 5 (w.heap.size + 1) (w.heap.size + 1) (Lib.byteCells []) ((w.alloc (.cells #[.int .i64 0, .int .u64 0, .int .u64 0, .int .u64 0, .string ByteArray.empty, .bool false] 102)).alloc (.cells #[.pointer none, .slice none 0 0] 87))) := Lib.hid hi
  have f5 : ((w.alloc (.cells #[.int .i64 0, .int .u64 0, .int .u64 0, .int .u64 0, .string ByteArray.empty, .bool false] 102)).alloc (.cells #[.pointer none, .slice none 0 0] 87)).cell? ⟨w.heap.size, 5, none⟩ = some (.bool false) := by rw [cell_of HX1.out]; rfl
  have f4 : ((w.alloc (.cells #[.int .i64 0, .int .u64 0, .int .u64 0, .int .u64 0, .string ByteArray.empty, .bool false] 102)).alloc (.cells #[.pointer none, .slice none 0 0] 87)).cell? ⟨w.heap.size, 4, none⟩ = some (.string ByteArray.empty) := by rw [cell_of HX1.out]; rfl
  have f1 : ((w.alloc (.cells #[.int .i64 0, .int .u64 0, .int .u64 0, .int .u64 0, .string ByteArray.empty, .bool false] 102)).alloc (.cells #[.pointer none, .slice none 0 0] 87)).cell? ⟨w.heap.size, 1, none⟩ = some (.int .u64 0) := by rw [cell_of HX1.out]; rfl
  have f2 : ((w.alloc (.cells #[.int .i64 0, .int .u64 0, .int .u64 0, .int .u64 0, .string ByteArray.empty, .bool false] 102)).alloc (.cells #[.pointer none, .slice none 0 0] 87)).cell? ⟨w.heap.size, 2, none⟩ = some (.int .u64 0) := by rw [cell_of HX1.out]; rfl
  have f3 : ((w.alloc (.cells #[.int .i64 0, .int .u64 0, .int .u64 0, .int .u64 0, .string ByteArray.empty, .bool false] 102)).alloc (.cells #[.pointer none, .slice none 0 0] 87)).cell? ⟨w.heap.size, 3, none⟩ = some (.int .u64 0) := by rw [cell_of HX1.out]; rfl
  have g4 : (w.alloc (.cells #[.int .i64 0, .int .u64 0, .int .u64 0, .int .u64 0, .string ByteArray.empty, .bool false] 102)).cell? ⟨w.heap.size, 4, none⟩ = some (.string ByteArray.empty) := by rw [cell_of (heap_new w _)]; rfl
  have g5 : (w.alloc (.cells #[.int .i64 0, .int .u64 0, .int .u64 0, .int .u64 0, .string ByteArray.empty, .bool false] 102)).cell? ⟨w.heap.size, 5, none⟩ = some (.bool false) := by rw [cell_of (heap_new w _)]; rfl
  have g1 : (w.alloc (.cells #[.int .i64 0, .int .u64 0, .int .u64 0, .int .u64 0, .string ByteArray.empty, .bool false] 102)).cell? ⟨w.heap.size, 1, none⟩ = some (.int .u64 0) := by rw [cell_of (heap_new w _)]; rfl
  have g2 : (w.alloc (.cells #[.int .i64 0, .int .u64 0, .int .u64 0, .int .u64 0, .string ByteArray.empty, .bool false] 102)).cell? ⟨w.heap.size, 2, none⟩ = some (.int .u64 0) := by rw [cell_of (heap_new w _)]; rfl
  have g3 : (w.alloc (.cells #[.int .i64 0, .int .u64 0, .int .u64 0, .int .u64 0, .string ByteArray.empty, .bool false] 102)).cell? ⟨w.heap.size, 3, none⟩ = some (.int .u64 0) := by rw [cell_of (heap_new w _)]; rfl
  clear hb1 hb2 hi
  go_enter Tryz.func72, Tryz.ntmps72
  go_wp2
  clear f4 f5 g1 g2 g3 g4 g5
  generalize ((w.alloc (.cells #[.int .i64 0, .int .u64 0, .int .u64 0, .int .u64 0, .string ByteArray.empty, .bool false] 102)).alloc (.cells #[.pointer none, .slice none 0 0] 87)) = w1 at *
  refine start_ (n := 12) (S := fun w' => w'.cell? ⟨w.heap.size, 1, none⟩ = some (.int .u64 0) ∧ w'.cell? ⟨w.heap.size, 2, none⟩ = some (.int .u64 0) ∧ w'.cell? ⟨w.heap.size, 3, none⟩ = some (.int .u64 0)) (ds := []) #[false, false, false, false, false, false, false, false, false, false, false, false] (by kernel_rfl) rfl rfl ⟨f1, f2, f3⟩ (fun hHeld => ?_)
  have HB2 := Lib.hid (below_next_ HB1.out (below_drew (Below.refl w1.heap.size w1)))
  have HX2 : Hid (w1.drew.heap[w.heap.size]? = some (.cells #[.int .i64 0, .int .u64 0, .int .u64 0, .int .u64 0, .string ByteArray.empty, .bool false] 102)) := Lib.hid HX1.out
  have HI2 := Lib.hid (isb_below HI1.out (below_drew (Below.refl w1.heap.size w1)))
  generalize w1.drew = w2 at *
  refine pure_ (i := 0) (N := some 32) (v := ?_) (a' := ?_) #[true, false, false, false, false, false, false, false, false, false, false, false] rfl rfl (by kernel_rfl) (fun _ _ _ h => h) (Or.inl ⟨by rfl, ?_⟩) ?_ ?_
  rotate_left
  · intro w'
    go_simp
    with_reducible rfl
  rotate_left
  · simp only [Act.put, List.setIfInBounds_toArray, List.set_cons_zero, List.set_cons_succ, i64_w, i32_w]
    rfl
  refine pure_ (i := 3) (N := some 35) (v := ?_) (a' := ?_) #[true, false, false, true, false, false, false, false, false, false, false, false] rfl rfl (by kernel_rfl) (fun _ _ _ h => h) (Or.inl ⟨by rfl, ?_⟩) ?_ ?_
  rotate_left
  · intro w'
    go_simp
    with_reducible rfl
  rotate_left
  · simp only [Act.put, List.setIfInBounds_toArray, List.set_cons_zero, List.set_cons_succ, i64_w, i32_w]
    rfl
  refine pure_ (i := 6) (N := some 38) (v := ?_) (a' := ?_) #[true, false, false, true, false, false, true, false, false, false, false, false] rfl rfl (by kernel_rfl) (fun _ _ _ h => h) (Or.inl ⟨by rfl, ?_⟩) ?_ ?_
  rotate_left
  · intro w'
    go_simp
    with_reducible rfl
  rotate_left
  · simp only [Act.put, List.setIfInBounds_toArray, List.set_cons_zero, List.set_cons_succ, i64_w, i32_w]
    rfl
  refine take_ (i := 1) (N := some 33) (v := ?_) (a' := ?_) #[true, true, false, true, false, false, true, false, false, false, false, false] rfl rfl (by kernel_rfl) (fun _ _ _ h => h) (Or.inl ⟨by rfl, ?_⟩) hHeld ?_ ?_
  rotate_left
  · rintro w' ⟨s0, s1, s2⟩
    go_simp
    with_reducible rfl
  rotate_left
  · simp only [Act.put, List.setIfInBounds_toArray, List.set_cons_zero, List.set_cons_succ, i64_w, i32_w]
    rfl
  refine pure_ (i := 2) (N := some 34) (v := ?_) (a' := ?_) #[true, true, true, true, false, false, true, false, false, false, false, false] rfl rfl (by kernel_rfl) (fun _ _ _ h => h) (Or.inl ⟨by rfl, ?_⟩) ?_ ?_
  rotate_left
  · intro w'
    go_simp
    with_reducible rfl
  rotate_left
  · simp only [Act.put, List.setIfInBounds_toArray, List.set_cons_zero, List.set_cons_succ, i64_w, i32_w]
    rfl
  refine pure_ (i := 9) (N := some 5) (v := ?_) (a' := ?_) #[true, true, true, true, false, false, true, false, false, true, false, false] rfl rfl (by kernel_rfl) (fun _ _ _ h => h) (Or.inl ⟨by rfl, ?_⟩) ?_ ?_
  rotate_left
  · intro w'
    go_simp
    with_reducible rfl
  rotate_left
  · simp only [Act.put, List.setIfInBounds_toArray, List.set_cons_zero, List.set_cons_succ, i64_w, i32_w]
    rfl
  refine take_ (i := 4) (N := some 36) (v := ?_) (a' := ?_) #[true, true, true, true, true, false, true, false, false, true, false, false] rfl rfl (by kernel_rfl) (fun _ _ _ h => h) (Or.inl ⟨by rfl, ?_⟩) hHeld ?_ ?_
  rotate_left
  · rintro w' ⟨s0, s1, s2⟩
    go_simp
    with_reducible rfl
  rotate_left
  · simp only [Act.put, List.setIfInBounds_toArray, List.set_cons_zero, List.set_cons_succ, i64_w, i32_w]
    rfl
  refine pure_ (i := 5) (N := some 37) (v := ?_) (a' := ?_) #[true, true, true, true, true, true, true, false, false, true, false, false] rfl rfl (by kernel_rfl) (fun _ _ _ h => h) (Or.inl ⟨by rfl, ?_⟩) ?_ ?_
  rotate_left
  · intro w'
    go_simp
    with_reducible rfl
  rotate_left
  · simp only [Act.put, List.setIfInBounds_toArray, List.set_cons_zero, List.set_cons_succ, i64_w, i32_w]
    rfl
  refine pure_ (i := 10) (N := some 6) (v := ?_) (a' := ?_) #[true, true, true, true, true, true, true, false, false, true, true, false] rfl rfl (by kernel_rfl) (fun _ _ _ h => h) (Or.inl ⟨by rfl, ?_⟩) ?_ ?_
  rotate_left
  · intro w'
    go_simp
    with_reducible rfl
  rotate_left
  · simp only [Act.put, List.setIfInBounds_toArray, List.set_cons_zero, List.set_cons_succ, i64_w, i32_w]
    rfl
  refine take_ (i := 7) (N := some 39) (v := ?_) (a' := ?_) #[true, true, true, true, true, true, true, true, false, true, true, false] rfl rfl (by kernel_rfl) (fun _ _ _ h => h) (Or.inl ⟨by rfl, ?_⟩) hHeld ?_ ?_
  rotate_left
  · rintro w' ⟨s0, s1, s2⟩
    go_simp
    with_reducible rfl
  rotate_left
  · simp only [Act.put, List.setIfInBounds_toArray, List.set_cons_zero, List.set_cons_succ, i64_w, i32_w]
    rfl
  refine pure_ (i := 8) (N := some 40) (v := ?_) (a' := ?_) #[true, true, true, true, true, true, true, true, true, true, true, false] rfl rfl (by kernel_rfl) (fun _ _ _ h => h) (Or.inl ⟨by rfl, ?_⟩) ?_ ?_
  rotate_left
  · intro w'
    go_simp
    with_reducible rfl
  rotate_left
  · simp only [Act.put, List.setIfInBounds_toArray, List.set_cons_zero, List.set_cons_succ, i64_w, i32_w]
    rfl
  refine pure_ (i := 11) (N := some 7) (v := ?_) (a' := ?_) #[true, true, true, true, true, true, true, true, true, true, true, true] rfl rfl (by kernel_rfl) (fun _ _ _ h => h) (Or.inl ⟨by rfl, ?_⟩) ?_ ?_
  rotate_left
  · intro w'
    go_simp
    with_reducible rfl
  rotate_left
  · simp only [Act.put, List.setIfInBounds_toArray, List.set_cons_zero, List.set_cons_succ, i64_w, i32_w]
    rfl
  refine done_ (by kernel_rfl) ?_
  clear f1 f2 f3 HB1 HX1 HI1
  have f5 : w2.cell? ⟨w.heap.size, 5, none⟩ = some (.bool false) := by rw [cell_of HX2.out]; rfl
  rw [show IntKind.u16.wrap 0 = 0 by kernel_rfl, show IntKind.u32.wrap 0 = 0 by kernel_rfl]
  go_wp2_with (first | (go_at_call 122; refine (two0 _).mono ?_; rintro e w3 ⟨rfl, hb⟩; have HB2 := Lib.hid (below_next_ HB2.out hb); have HX2 := Lib.hid ((hb.block w.heap.size (Array.getElem?_eq_some_iff.1 HX2.out).1).trans HX2.out); have HI2 := Lib.hid (isb_below HI2.out hb); clear hb) | (go_at_call 123; refine (four0 _).mono ?_; rintro e w3 ⟨rfl, hb⟩; have HB2 := Lib.hid (below_next_ HB2.out hb); have HX2 := Lib.hid ((hb.block w.heap.size (Array.getElem?_eq_some_iff.1 HX2.out).1).trans HX2.out); have HI2 := Lib.hid (isb_below HI2.out hb); clear hb))
  refine (writeString (w.heap.size + 1) (w.heap.size + 1) _ _ _ HI2.out (of_decide_eq_true (by kernel_rfl)) (Nat.le_of_lt (isb_lt HI2.out))).mono ?_
  rintro e w6 ⟨rfl, h1, h2, h3⟩
  have HB6 := Lib.hid (HB2.out.trans (h2.mono (Nat.le_succ _)))
  have HI6 : Hid (Lib.IsBuilderF 87 5 (w.heap.size + 1) (w.heap.size + 1) (Lib.byteCells [80, 75, 5, 6, 0, 0, 0, 0, 0, 0, 0, 0, 0, 0, 0, 0, 0, 0, 0, 0]) w6) := Lib.hid (.inr h1)
  have HX6 := Lib.hid ((h2.block w.heap.size (Nat.lt_succ_self _)).trans HX2.out)
  clear h1 h2 h3
  have f4 : w6.cell? ⟨w.heap.size, 4, none⟩ = some (.string ByteArray.empty) := by rw [cell_of HX6.out]; rfl
  go_wp2
  refine start_ (n := 9) (S := fun w' => w'.cell? ⟨w.heap.size, 4, none⟩ = some (.string ByteArray.empty)) (ds := [8]) #[false, false, false, false, false, false, false, false, false] (by kernel_rfl) rfl rfl (f4) (fun hHeld => ?_)
  have HB7 := Lib.hid (below_next_ HB6.out (below_drew (Below.refl w6.heap.size w6)))
  have HX7 : Hid (w6.drew.heap[w.heap.size]? = some (.cells #[.int .i64 0, .int .u64 0, .int .u64 0, .int .u64 0, .string ByteArray.empty, .bool false] 102)) := Lib.hid HX6.out
  have HI7 := Lib.hid (isb_below HI6.out (below_drew (Below.refl w6.heap.size w6)))
  generalize w6.drew = w7 at *
  refine pure_ (i := 0) (N := some 99) (v := ?_) (a' := ?_) #[true, false, false, false, false, false, false, false, false] rfl rfl (by kernel_rfl) (fun _ _ _ h => h) (Or.inl ⟨by rfl, ?_⟩) ?_ ?_
  rotate_left
  · intro w'
    go_simp
    with_reducible rfl
  rotate_left
  · simp only [Act.put, List.setIfInBounds_toArray, List.set_cons_zero, List.set_cons_succ, i64_w, i32_w]
    rfl
  refine pure_ (i := 5) (N := some 104) (v := ?_) (a' := ?_) #[true, false, false, false, false, true, false, false, false] rfl rfl (by kernel_rfl) (fun _ _ _ h => h) (Or.inl ⟨by rfl, ?_⟩) ?_ ?_
  rotate_left
  · intro w'
    go_simp
    with_reducible rfl
  rotate_left
  · simp only [Act.put, List.setIfInBounds_toArray, List.set_cons_zero, List.set_cons_succ, i64_w, i32_w]
    rfl
  refine take_ (i := 1) (N := some 100) (v := ?_) (a' := ?_) #[true, true, false, false, false, true, false, false, false] rfl rfl (by kernel_rfl) (fun _ _ _ h => h) (Or.inl ⟨by rfl, ?_⟩) hHeld ?_ ?_
  rotate_left
  · intro w' s0
    go_simp
    with_reducible rfl
  rotate_left
  · simp only [Act.put, List.setIfInBounds_toArray, List.set_cons_zero, List.set_cons_succ, i64_w, i32_w]
    rfl
  refine pure_ (i := 2) (N := some 101) (v := ?_) (a' := ?_) #[true, true, true, false, false, true, false, false, false] rfl rfl (by kernel_rfl) (fun _ _ _ h => h) (Or.inl ⟨by rfl, ?_⟩) ?_ ?_
  rotate_left
  · intro w'
    go_simp
    with_reducible rfl
  rotate_left
  · simp only [Act.put, List.setIfInBounds_toArray, List.set_cons_zero, List.set_cons_succ, i64_w, i32_w]
    rfl
  refine pure_ (i := 3) (N := some 102) (v := ?_) (a' := ?_) #[true, true, true, true, false, true, false, false, false] rfl rfl (by kernel_rfl) (fun _ _ _ h => h) (Or.inl ⟨by rfl, ?_⟩) ?_ ?_
  rotate_left
  · intro w'
    go_simp
    with_reducible rfl
  rotate_left
  · simp only [Act.put, List.setIfInBounds_toArray, List.set_cons_zero, List.set_cons_succ, i64_w, i32_w]
    rfl
  refine take_ (i := 6) (N := some 105) (v := ?_) (a' := ?_) #[true, true, true, true, false, true, true, false, false] rfl rfl (by kernel_rfl) (fun _ _ _ h => h) (Or.inl ⟨by rfl, ?_⟩) hHeld ?_ ?_
  rotate_left
  · intro w' s0
    go_simp
    with_reducible rfl
  rotate_left
  · simp only [Act.put, List.setIfInBounds_toArray, List.set_cons_zero, List.set_cons_succ, i64_w, i32_w]
    rfl
  refine one_ (i := 4) (N := some 103) #[true, true, true, true, true, true, true, false, false] rfl rfl (by kernel_rfl) (by decide) (fun K hK => ?_)
  refine goes_ Tryz.func122 (by kernel_rfl) rfl #[.int .u16 0] (by rfl) rfl rfl (by simp only [List.map_toArray, List.map_cons, List.map_nil]; rfl) ?_
  with_reducible refine (two0 _).mono ?_
  rintro e w8 ⟨rfl, hb⟩
  refine ⟨_, rfl, ?_⟩
  have HB8 := Lib.hid (below_next_ HB7.out hb)
  have HX8 := Lib.hid ((hb.block w.heap.size (Array.getElem?_eq_some_iff.1 HX7.out).1).trans HX7.out)
  have HI8 := Lib.hid (isb_below HI7.out hb)
  clear hb
  refine hK.out _ _ ((by rw [cell_of HX8.out]; rfl)) (fun hHeld => ?_)
  clear hK K
  refine norm_ (a' := ?_) ?_ ?_
  rotate_left
  · show Act.put _ (some 103) _ = _
    simp only [Act.put, List.setIfInBounds_toArray, List.set_cons_zero, List.set_cons_succ, i64_w, i32_w]
    rfl
  refine pure_ (i := 7) (N := some 106) (v := ?_) (a' := ?_) #[true, true, true, true, true, true, true, true, false] rfl rfl (by kernel_rfl) (fun _ _ _ h => h) (Or.inl ⟨by rfl, ?_⟩) ?_ ?_
  rotate_left
  · intro w'
    go_simp
    with_reducible rfl
  rotate_left
  · simp only [Act.put, List.setIfInBounds_toArray, List.set_cons_zero, List.set_cons_succ, i64_w, i32_w]
    rfl
  refine last_ (i := 8) (N := some 107) #[true, true, true, true, true, true, true, true, true] rfl rfl (by kernel_rfl) (by decide) (fun K hK => ?_)
  refine goes_ Tryz.func71 (by kernel_rfl) rfl #[.pointer (some ⟨w.heap.size + 1, 0, none⟩), .string (⟨#[0, 0]⟩ ++ ByteArray.empty)] (by rfl) rfl rfl (by simp only [List.map_toArray, List.map_cons, List.map_nil]; rfl) ?_
  with_reducible refine (writeString (w.heap.size + 1) (w.heap.size + 1) _ (⟨#[0, 0]⟩ ++ ByteArray.empty) w8 HI8.out (of_decide_eq_true (by kernel_rfl)) (Nat.le_of_lt (isb_lt HI8.out))).mono ?_
  rintro e w9 ⟨rfl, h1, h2, h3⟩
  refine ⟨_, rfl, ?_⟩
  have HB9 := Lib.hid (HB8.out.trans (h2.mono (Nat.le_succ _)))
  have HI9 : Hid (Lib.IsBuilderF 87 5 (w.heap.size + 1) (w.heap.size + 1) (Lib.byteCells [80, 75, 5, 6, 0, 0, 0, 0, 0, 0, 0, 0, 0, 0, 0, 0, 0, 0, 0, 0, 0, 0]) w9) := Lib.hid (.inr h1)
  clear h1 h2 h3
  refine hK.out _ _ ?_
  clear hK K
  refine norm_ (a' := ?_) ?_ ?_
  rotate_left
  · show Act.put _ (some 107) _ = _
    simp only [Act.put, List.setIfInBounds_toArray, List.set_cons_zero, List.set_cons_succ, i64_w, i32_w]
    rfl
  refine done_ (by kernel_rfl) ?_
  clear f4
  have HSR := Lib.hid (string_any (w.heap.size + 1) (w.heap.size + 1) [80, 75, 5, 6, 0, 0, 0, 0, 0, 0, 0, 0, 0, 0, 0, 0, 0, 0, 0, 0, 0, 0] w9 HI9.out (Nat.le_of_lt (isb_lt HI9.out)))
  go_wp2_with fail
  refine HSR.out.mono ?_
  rintro e w10 ⟨rfl, hb, _, _⟩
  have HB10 := Lib.hid (HB9.out.trans (hb.mono (Nat.le_succ _)))
  clear hb
  go_wp2
  refine bodyPost_ret (results_tmp2 rfl _ _ _) rfl ?_
  exact ⟨rfl, HB10.out⟩
theorem fresh_of {B b : Nat} {W : World} (hB : B ≤ b) (h : W.heap[b]? = some (.cells #[.pointer none, .slice none 0 0] 87)) : Lib.IsBuilderF 87 5 B b (Lib.byteCells []) W :=
  .inl ⟨hB, .slice none 0 0, h, ⟨rfl, .inl ⟨rfl, rfl⟩⟩, by simp [Value.ownBlock]⟩
set_option maxHeartbeats 1000000 in
theorem len0 (b : Nat) (W : World) (h : W.heap[b]? = some (.cells #[.pointer none, .slice none 0 0] 87)) : Calls Tryz.prog 69 #[.pointer (some ⟨b, 0, none⟩)] W fun e w' => e = .returned (.int .i64 0) ∧ w' = W := by
  have c1 : W.cell? ⟨b, 1, none⟩ = some (.slice none 0 0) := by rw [cell_of h]; rfl
  clear h
  go_enter Tryz.func69, Tryz.ntmps69
  go_wp2
  go_ret
  exact ⟨rfl, rfl⟩
set_option maxHeartbeats 4000000 in
set_option maxRecDepth 100000 in
theorem print0 (w : World) : Calls Tryz.prog 38 #[.slice none 0 0, .int .i64 6, .bool false] w fun e w' => ∃ r : ByteArray, e = .returned (.tuple #[.string r, .int .i64 0]) ∧ r.size = 22 ∧ Below w.heap.size w w' := by
  have hb1 := below_one w (.cells #[.pointer none, .slice none 0 0] 87)
  have hb2 := below_one (w.alloc (.cells #[.pointer none, .slice none 0 0] 87)) (.cells #[.pointer none, .slice none 0 0] 87)
  have HB1 := Lib.hid (below_next_ hb1 hb2)
  have HX1 := Lib.hid ((hb2.block w.heap.size (by simp)).trans (heap_new w (.cells #[.pointer none, .slice none 0 0] 87)))
  have hy := heap_new (w.alloc (.cells #[.pointer none, .slice none 0 0] 87)) (.cells #[.pointer none, .slice none 0 0] 87)
  rw [show (w.alloc (.cells #[.pointer none, .slice none 0 0] 87)).heap.size = w.heap.size + 1 by simp] at hy
  have HY1 := Lib.hid hy
  clear hb1 hb2 hy
  go_enter Tryz.func38, Tryz.ntmps38
  go_wp2
  generalize (w.alloc (.cells #[.pointer none, .slice none 0 0] 87)).alloc (.cells #[.pointer none, .slice none 0 0] 87) = U at *
  go_loopw [24] (fun v wr => v = .int .i64 0 ∧ wr = U) (fun _ _ => 0)
  case atStart => exact ⟨rfl, rfl⟩
  case round =>
    obtain ⟨rfl, rfl⟩ := hrel
    go_wp2_with (first | (go_at_call 69; refine (len0 (w.heap.size + 1) _ HY1.out).mono ?_; rintro e w' ⟨rfl, rfl⟩) | (go_at_call 69; refine (len0 w.heap.size _ HX1.out).mono ?_; rintro e w' ⟨rfl, rfl⟩))
    refine (tail0 _).mono ?_
    rintro e w2 ⟨rfl, hb⟩
    have HB2 := Lib.hid (below_next_ HB1.out hb)
    have HX2 := Lib.hid ((hb.block _ (Array.getElem?_eq_some_iff.1 HX1.out).1).trans HX1.out)
    have HY2 := Lib.hid ((hb.block _ (Array.getElem?_eq_some_iff.1 HY1.out).1).trans HY1.out)
    clear hb
    go_wp2_with fail
    refine (string_any w.heap.size w.heap.size [] w2 (fresh_of (Nat.le_refl _) HX2.out) HB2.out.size).mono ?_
    rintro e w3 ⟨rfl, hb, _, hk⟩
    have HB3 := Lib.hid (HB2.out.trans hb)
    have HY3 := Lib.hid (hk _ _ HY2.out (by intro e; injection e with e; omega) (by intro c fz e; injection e with _ e2 _; exact absurd e2 (by decide)))
    clear hb hk
    go_wp2_with fail
    refine (string_any w.heap.size (w.heap.size + 1) [] w3 (fresh_of (Nat.le_succ _) HY3.out) HB3.out.size).mono ?_
    rintro e w4 ⟨rfl, hb, _, _⟩
    have HB4 := Lib.hid (HB3.out.trans hb)
    clear hb
    go_wp2
    refine bodyPost_ret (results_tmp2 rfl _ _ _) rfl ?_
    exact ⟨_, rfl, by kernel_rfl, HB4.out⟩
set_option maxHeartbeats 1000000 in
theorem awake_any (w : World) : Calls Tryz.prog 7 #[] w fun e w' => e = .returned (.bool true) ∧ Below w.heap.size w w' := by
  have HP := Lib.hid (print0 w)
  go_enter Tryz.func7, Tryz.ntmps7
  go_wp2_with fail
  refine HP.out.mono ?_
  rintro e w2 ⟨r, rfl, hr, hb⟩
  have HB := Lib.hid hb
  have hrI : ((r.size : Int) == 22) = true := by rw [hr]; rfl
  clear hb hr HP
  go_wp2
  go_ret
  exact ⟨rfl, HB.out⟩
end Go.Proofs.YtpjjooiamdfmfaaGreatDoor.Tail0
