/- disk: a change is shown, and waits. -/
import Derived.Test.YtfogfkikkekmkaaDoorDiskDone
set_option linter.unusedVariables false
set_option linter.unusedSimpArgs false
namespace Go.Proofs.YtfogfkikkekmkaaDoor.DiskWait
open Go.RowKit Go.Proofs.YtfogfkikkekmkaaDoorW.PrintWords Go.Proofs.YtfogfkikkekmkaaDoorW.PrintLast Go.Proofs.YtfogfkikkekmkaaDoorW.PrintMore Go.Proofs.YtfogfkikkekmkaaDoor.NameWalk Go.Proofs.YtfogfkikkekmkaaDoor.Item Go.Proofs.YtfogfkikkekmkaaDoor.DiskAt Go.Proofs.YtfogfkikkekmkaaDoor.DiskSmall Go.Proofs.YtfogfkikkekmkaaDoor.DiskRows Go.Proofs.YtfogfkikkekmkaaDoor.DiskDone

theorem infoCh : (Tryd.prog.info? 71).map (fun i => (i.zero, i.size, i.bytes)) = some (some (.agg #[.int .i64 0, .string ByteArray.empty, .string ByteArray.empty, .int .i64 0, .int .u32 0, .int .u32 0, .int .u32 0, .int .i64 0, .int .i64 0, .string ByteArray.empty, .bool false]), 11, 104) := by kernel_rfl
theorem chK_M (W : World) (n : Nat) (ok : Nat → Prop) (kk : Int) (pa tp : ByteArray) (kd mo ui gi mt at_ : Int) (da : ByteArray) (su : Bool) : chK.M W n ok (kk, pa, tp, (kd, mo, ui, gi, mt, at_, da), su) [.int .i64 kk, .string pa, .string tp, .int .i64 kd, .int .u32 mo, .int .u32 ui, .int .u32 gi, .int .i64 mt, .int .i64 at_, .string da, .bool su] :=
  ⟨[_], _, rfl, rfl, [_], _, rfl, rfl, [_], _, rfl, rfl, [.int .i64 kd, .int .u32 mo, .int .u32 ui, .int .u32 gi, .int .i64 mt, .int .i64 at_, .string da], [_], rfl,
    ⟨[_], _, rfl, rfl, [_], _, rfl, rfl, [_], _, rfl, rfl, [_], _, rfl, rfl, [_], _, rfl, rfl, [_], [_], rfl, rfl, rfl⟩, rfl⟩
section
variable {W W1 : World} {n b : Nat} {vl vs vq : Value} {l s : List It} {q : List Ch} {lim fu fa st : Int} {off : Bool}
theorem dshows (h : DAt W n b vl vs vq l s q lim fu fa st off) {v1 : Value} {s1 : List It} (hp : RowPost n W W1 vs v1 s1) : DAt (W1.setCell ⟨b, 1, none⟩ v1) n b vl v1 vq l s1 q lim fu fa st off := by
  have hbn : some b ≠ vs.ownBlock := Kd.R_ne h.rs h.blk (by decide)
  have at1 := (hp.2.1.block b h.lt hbn).trans h.blk
  refine ⟨blk_put at1 1 v1 rfl, Kd.R_set ?_ at1 (by decide) 1 v1, Kd.R_set hp.1 at1 (by decide) 1 v1, Kd.R_set ?_ at1 (by decide) 1 v1, h.nb⟩
  · refine Kd.R_mono (Kd.R_grown (Kd.R_bound h.rl) hp.2.1 (fun k hk => hk.1)) (fun k hk => ?_)
    rcases hp.2.2 with e | ⟨b2, e, hle⟩
    · rw [e]; exact hk.1
    · rw [e]
      intro h1
      injection h1 with h1
      have := hk.2.2.1
      omega
  · refine Kd.R_grown2 h.rq rfl hp.2.1 (fun k hk => ?_)
    obtain ⟨inner, ho⟩ := Kd.R_own h.rs
    obtain ⟨cells, hc⟩ := own_typed ho k hk
    exact Kd.R_ne h.rq hc (by decide)
theorem dwaits (h : DAt W n b vl vs vq l s q lim fu fa st off) {v1 : Value} {q1 : List Ch} (hr : chK.R 71 W1 n (fun _ => True) v1 q1) (hg : W.grownBy W1 vq.ownBlock) : DAt (W1.setCell ⟨b, 2, none⟩ v1) n b vl vs v1 l s q1 lim fu fa st off := by
  have hbn : some b ≠ vq.ownBlock := Kd.R_ne h.rq h.blk (by decide)
  have at1 := (hg.block b h.lt hbn).trans h.blk
  have hne : ∀ k, vq.ownBlock = some k → ∃ cells, W.heap[k]? = some (.cells cells 71 (0, 0)) := fun k hk => by
    obtain ⟨inner, ho⟩ := Kd.R_own h.rq
    exact own_typed ho k hk
  refine ⟨blk_put at1 2 v1 rfl, Kd.R_set (Kd.R_grown2 h.rl rfl hg (fun k hk => ?_)) at1 (by decide) 2 v1, Kd.R_set (Kd.R_grown2 h.rs rfl hg (fun k hk => ?_)) at1 (by decide) 2 v1, Kd.R_set hr at1 (by decide) 2 v1, h.nb⟩
  · obtain ⟨cells, hc⟩ := hne k hk
    exact Kd.R_ne h.rl hc (by decide)
  · obtain ⟨cells, hc⟩ := hne k hk
    exact Kd.R_ne h.rs hc (by decide)
end
set_option maxHeartbeats 8000000 in
set_option maxRecDepth 100000 in
theorem wait_any (W0 : World) (b : Nat) (vl vs vq : Value) (l s s1 : List It) (q : List Ch) (lim fu fa st : Int) (off : Bool) (kk : Int) (pa tp : ByteArray) (kd mo ui gi mt at_ : Int) (da : ByteArray) (su : Bool) (W : World) (hb0 : Below W0.heap.size W0 W)
    (h : DAt W W0.heap.size b vl vs vq l s q lim fu fa st off) (hd : ∀ W', Below W0.heap.size W0 W' → itemK.R 57 W' W0.heap.size (fun _ => True) vs s → Calls Tryd.prog 43 #[vs, .agg #[.int .i64 kk, .string pa, .string tp, .int .i64 kd, .int .u32 mo, .int .u32 ui, .int .u32 gi, .int .i64 mt, .int .i64 at_, .string da, .bool su]] W' fun e w' => ∃ v1, e = .returned v1 ∧ RowPost W0.heap.size W' w' vs v1 s1)
    (hfu : fu ≤ 0) (hst : 0 ≤ st) (hst2 : st < 1000000) (hq : q.length ≤ 1000000) :
    Calls Tryd.prog 57 #[.pointer (some ⟨b, 0, none⟩), .agg #[.int .i64 kk, .string pa, .string tp, .int .i64 kd, .int .u32 mo, .int .u32 ui, .int .u32 gi, .int .i64 mt, .int .i64 at_, .string da, .bool su]] W fun e w' => e = .returned (.int .i64 0) ∧ (∃ vs1 vq1, DAt w' W0.heap.size b vl vs1 vq1 l s1 (q ++ [(kk, pa, tp, (kd, mo, ui, gi, mt, at_, da), su)]) lim fu fa (st + 1) off) ∧ Below W0.heap.size W0 w' := by
  obtain ⟨As, cs, rfl⟩ := Kd.R_slice h.rs
  obtain ⟨Aq, cq, rfl⟩ := Kd.R_slice h.rq
  have HD := Lib.hid hd
  have hb1 := below_one W (.cells #[.int .i64 kk, .string pa, .string tp, .int .i64 kd, .int .u32 mo, .int .u32 ui, .int .u32 gi, .int .i64 mt, .int .i64 at_, .string da, .bool su] 71)
  have HB1 := Lib.hid (hb0.trans (hb1.mono hb0.size))
  have HD1 := Lib.hid (h.below hb1)
  have HK1 := Lib.hid (heap_new W (.cells #[.int .i64 kk, .string pa, .string tp, .int .i64 kd, .int .u32 mo, .int .u32 ui, .int .u32 gi, .int .i64 mt, .int .i64 at_, .string da, .bool su] 71))
  have HQB := Lib.hid (show some W.heap.size ≠ (Value.slice Aq q.length cq).ownBlock from fun e => by
    obtain ⟨inner, ho⟩ := Kd.R_own h.rq
    have := own_lt ho _ e.symm
    omega)
  have HBC := Lib.hid (show W.heap.size ≠ b from fun e => by have := h.lt; omega)
  clear hd hb1 hb0 h
  go_enter Tryd.func57, Tryd.ntmps57
  go_wp2
  generalize W.alloc (.cells #[.int .i64 kk, .string pa, .string tp, .int .i64 kd, .int .u32 mo, .int .u32 ui, .int .u32 gi, .int .i64 mt, .int .i64 at_, .string da, .bool su] 71) = W1 at *
  generalize W.heap.size = bc at *
  have HD4 : Hid (DAt W1.drew W0.heap.size b vl (.slice As s.length cs) (.slice Aq q.length cq) l s q lim fu fa st off) := Lib.hid (HD1.out.below (below_drew (Below.refl _ _)))
  have HB4 : Hid (Below W0.heap.size W0 W1.drew) := Lib.hid (below_drew HB1.out)
  have HK4 : Hid (W1.drew.heap[bc]? = some (.cells #[.int .i64 kk, .string pa, .string tp, .int .i64 kd, .int .u32 mo, .int .u32 ui, .int .u32 gi, .int .i64 mt, .int .i64 at_, .string da, .bool su] 71 (0, 0))) := Lib.hid HK1.out
  have p0 := HD4.out.c1
  have p1 : W1.drew.cell? ⟨bc, 0, none⟩ = some (.int .i64 kk) := by rw [cell_of HK4.out]; rfl
  have p2 : W1.drew.cell? ⟨bc, 1, none⟩ = some (.string pa) := by rw [cell_of HK4.out]; rfl
  have p3 : W1.drew.cell? ⟨bc, 2, none⟩ = some (.string tp) := by rw [cell_of HK4.out]; rfl
  have p4 : W1.drew.cell? ⟨bc, 3, none⟩ = some (.int .i64 kd) := by rw [cell_of HK4.out]; rfl
  have p5 : W1.drew.cell? ⟨bc, 4, none⟩ = some (.int .u32 mo) := by rw [cell_of HK4.out]; rfl
  have p6 : W1.drew.cell? ⟨bc, 5, none⟩ = some (.int .u32 ui) := by rw [cell_of HK4.out]; rfl
  have p7 : W1.drew.cell? ⟨bc, 6, none⟩ = some (.int .u32 gi) := by rw [cell_of HK4.out]; rfl
  have p8 : W1.drew.cell? ⟨bc, 7, none⟩ = some (.int .i64 mt) := by rw [cell_of HK4.out]; rfl
  have p9 : W1.drew.cell? ⟨bc, 8, none⟩ = some (.int .i64 at_) := by rw [cell_of HK4.out]; rfl
  have p10 : W1.drew.cell? ⟨bc, 9, none⟩ = some (.string da) := by rw [cell_of HK4.out]; rfl
  have p11 : W1.drew.cell? ⟨bc, 10, none⟩ = some (.bool su) := by rw [cell_of HK4.out]; rfl
  refine start_ (n := 10) (S := fun w' => w'.cell? ⟨b, 1, none⟩ = some (.slice As s.length cs) ∧ w'.cell? ⟨bc, 0, none⟩ = some (.int .i64 kk) ∧ w'.cell? ⟨bc, 1, none⟩ = some (.string pa) ∧ w'.cell? ⟨bc, 2, none⟩ = some (.string tp) ∧ w'.cell? ⟨bc, 3, none⟩ = some (.int .i64 kd) ∧ w'.cell? ⟨bc, 4, none⟩ = some (.int .u32 mo) ∧ w'.cell? ⟨bc, 5, none⟩ = some (.int .u32 ui) ∧ w'.cell? ⟨bc, 6, none⟩ = some (.int .u32 gi) ∧ w'.cell? ⟨bc, 7, none⟩ = some (.int .i64 mt) ∧ w'.cell? ⟨bc, 8, none⟩ = some (.int .i64 at_) ∧ w'.cell? ⟨bc, 9, none⟩ = some (.string da) ∧ w'.cell? ⟨bc, 10, none⟩ = some (.bool su)) (ds := [9]) #[false, false, false, false, false, false, false, false, false, false] (by kernel_rfl) rfl rfl ⟨p0, p1, p2, p3, p4, p5, p6, p7, p8, p9, p10, p11⟩ (fun hHeld => ?_)
  generalize W1.drew = W4 at *
  refine pure_ (i := 0) (N := some 5) (v := ?_) (a' := ?_) #[true, false, false, false, false, false, false, false, false, false] rfl rfl (by kernel_rfl) (fun _ _ _ h => h) (Or.inl ⟨by rfl, ?_⟩) ?_ ?_
  rotate_left
  · intro w'
    go_simp
    with_reducible rfl
  rotate_left
  · simp only [Act.put, List.setIfInBounds_toArray, List.set_cons_zero, List.set_cons_succ, i64_w, i32_w]
    rfl
  refine pure_ (i := 1) (N := some 6) (v := ?_) (a' := ?_) #[true, true, false, false, false, false, false, false, false, false] rfl rfl (by kernel_rfl) (fun _ _ _ h => h) (Or.inl ⟨by rfl, ?_⟩) ?_ ?_
  rotate_left
  · intro w'
    go_simp
    with_reducible rfl
  rotate_left
  · simp only [Act.put, List.setIfInBounds_toArray, List.set_cons_zero, List.set_cons_succ, i64_w, i32_w]
    rfl
  refine pure_ (i := 2) (N := some 7) (v := ?_) (a' := ?_) #[true, true, true, false, false, false, false, false, false, false] rfl rfl (by kernel_rfl) (fun _ _ _ h => h) (Or.inl ⟨by rfl, ?_⟩) ?_ ?_
  rotate_left
  · intro w'
    go_simp
    with_reducible rfl
  rotate_left
  · simp only [Act.put, List.setIfInBounds_toArray, List.set_cons_zero, List.set_cons_succ, i64_w, i32_w]
    rfl
  refine pure_ (i := 3) (N := some 8) (v := ?_) (a' := ?_) #[true, true, true, true, false, false, false, false, false, false] rfl rfl (by kernel_rfl) (fun _ _ _ h => h) (Or.inl ⟨by rfl, ?_⟩) ?_ ?_
  rotate_left
  · intro w'
    go_simp
    with_reducible rfl
  rotate_left
  · simp only [Act.put, List.setIfInBounds_toArray, List.set_cons_zero, List.set_cons_succ, i64_w, i32_w]
    rfl
  refine take_ (i := 4) (N := some 9) (v := ?_) (a' := ?_) #[true, true, true, true, true, false, false, false, false, false] rfl rfl (by kernel_rfl) (fun _ _ _ h => h) (Or.inl ⟨by rfl, ?_⟩) hHeld ?_ ?_
  rotate_left
  · rintro w' ⟨s0, s1, s2, s3, s4, s5, s6, s7, s8, s9, s10, s11⟩
    go_simp
    with_reducible rfl
  rotate_left
  · simp only [Act.put, List.setIfInBounds_toArray, List.set_cons_zero, List.set_cons_succ, i64_w, i32_w]
    rfl
  refine take_ (i := 5) (N := some 10) (v := ?_) (a' := ?_) #[true, true, true, true, true, true, false, false, false, false] rfl rfl (by kernel_rfl) (fun _ _ _ h => h) (Or.inl ⟨by rfl, ?_⟩) hHeld ?_ ?_
  rotate_left
  · rintro w' ⟨s0, s1, s2, s3, s4, s5, s6, s7, s8, s9, s10, s11⟩
    go_simp
    with_reducible rfl
  rotate_left
  · simp only [Act.put, List.setIfInBounds_toArray, List.set_cons_zero, List.set_cons_succ, i64_w, i32_w]
    rfl
  refine one_ (i := 6) (N := some 11) #[true, true, true, true, true, true, true, false, false, false] rfl rfl (by kernel_rfl) (by decide) (fun K hK => ?_)
  refine goes_ Tryd.func43 (by kernel_rfl) rfl #[.slice As s.length cs, .agg #[.int .i64 kk, .string pa, .string tp, .int .i64 kd, .int .u32 mo, .int .u32 ui, .int .u32 gi, .int .i64 mt, .int .i64 at_, .string da, .bool su]] (by rfl) rfl rfl (by simp only [List.map_toArray, List.map_cons, List.map_nil]; rfl) ?_
  with_reducible refine (HD.out W4 HB4.out HD4.out.rs).mono ?_
  rintro e w5 ⟨v1, rfl, hp5⟩
  refine ⟨_, rfl, ?_⟩
  obtain ⟨A1, c1, rfl⟩ := Kd.R_slice hp5.1
  have HP5 := Lib.hid hp5
  have q0 := cell_grown hp5.2.1 p0 (Kd.R_ne HD4.out.rs HD4.out.blk (by decide))
  have q1 := cell_grown hp5.2.1 p1 (Kd.R_ne HD4.out.rs HK4.out (by decide))
  have q2 := cell_grown hp5.2.1 p2 (Kd.R_ne HD4.out.rs HK4.out (by decide))
  have q3 := cell_grown hp5.2.1 p3 (Kd.R_ne HD4.out.rs HK4.out (by decide))
  have q4 := cell_grown hp5.2.1 p4 (Kd.R_ne HD4.out.rs HK4.out (by decide))
  have q5 := cell_grown hp5.2.1 p5 (Kd.R_ne HD4.out.rs HK4.out (by decide))
  have q6 := cell_grown hp5.2.1 p6 (Kd.R_ne HD4.out.rs HK4.out (by decide))
  have q7 := cell_grown hp5.2.1 p7 (Kd.R_ne HD4.out.rs HK4.out (by decide))
  have q8 := cell_grown hp5.2.1 p8 (Kd.R_ne HD4.out.rs HK4.out (by decide))
  have q9 := cell_grown hp5.2.1 p9 (Kd.R_ne HD4.out.rs HK4.out (by decide))
  have q10 := cell_grown hp5.2.1 p10 (Kd.R_ne HD4.out.rs HK4.out (by decide))
  have q11 := cell_grown hp5.2.1 p11 (Kd.R_ne HD4.out.rs HK4.out (by decide))
  have z5 : w5.frozen? ⟨b, 1, none⟩ = false := frozen_of ((hp5.2.1.block b HD4.out.lt (Kd.R_ne HD4.out.rs HD4.out.blk (by decide))).trans HD4.out.blk) 1
  have HK5 := Lib.hid ((hp5.2.1.block bc (Array.getElem?_eq_some_iff.1 HK4.out).1 (Kd.R_ne HD4.out.rs HK4.out (by decide))).trans HK4.out)
  have HB5 := Lib.hid (below_grown HB4.out (Nat.le_refl _) hp5.2.1 (fun x hx => by obtain ⟨inner, hown⟩ := Kd.R_own HD4.out.rs; exact own_base hown x hx))
  clear hp5
  refine hK.out _ _ ⟨q0, q1, q2, q3, q4, q5, q6, q7, q8, q9, q10, q11⟩ (fun hHeld => ?_)
  clear hK K
  refine norm_ (a' := ?_) ?_ ?_
  rotate_left
  · show Act.put _ (some 11) _ = _
    simp only [Act.put, List.setIfInBounds_toArray, List.set_cons_zero, List.set_cons_succ, i64_w, i32_w]
    rfl
  refine pure_ (i := 7) (N := some 12) (v := ?_) (a' := ?_) #[true, true, true, true, true, true, true, true, false, false] rfl rfl (by kernel_rfl) (fun _ _ _ h => h) (Or.inl ⟨by rfl, ?_⟩) ?_ ?_
  rotate_left
  · intro w'
    go_simp
    with_reducible rfl
  rotate_left
  · simp only [Act.put, List.setIfInBounds_toArray, List.set_cons_zero, List.set_cons_succ, i64_w, i32_w]
    rfl
  refine pure_ (i := 8) (N := some 13) (v := ?_) (a' := ?_) #[true, true, true, true, true, true, true, true, true, false] rfl rfl (by kernel_rfl) (fun _ _ _ h => h) (Or.inl ⟨by rfl, ?_⟩) ?_ ?_
  rotate_left
  · intro w'
    go_simp
    with_reducible rfl
  rotate_left
  · simp only [Act.put, List.setIfInBounds_toArray, List.set_cons_zero, List.set_cons_succ, i64_w, i32_w]
    rfl
  refine last_ (i := 9) (N := none) #[true, true, true, true, true, true, true, true, true, true] rfl rfl (by kernel_rfl) (by decide) (fun K hK => ?_)
  refine skip_ (w1 := ?_) (by rfl) rfl ?_ ?_
  rotate_left
  · go_simp
    rfl
  refine hK.out _ _ ?_
  clear hK K
  refine done_ (by kernel_rfl) ?_

  have HD6 := Lib.hid (dshows HD4.out HP5.out)
  have HB6 := Lib.hid (below_grown HB5.out (Nat.le_refl _) (set_grown w5 b 1 (.slice A1 s1.length c1)) (fun x hx => by injection hx with hx; have := HD4.out.nb; omega))
  have HK6 := Lib.hid (blk_far HK5.out (p := ⟨b, 1, none⟩) HBC.out (.slice A1 s1.length c1))
  clear p0 p1 p2 p3 p4 p5 p6 p7 p8 p9 p10 p11 q0 q1 q2 q3 q4 q5 q6 q7 q8 q9 q10 q11 z5
  go_wp2
  generalize w5.setCell ⟨b, 1, none⟩ (.slice A1 s1.length c1) = W6 at *
  have HD7 : Hid (DAt W6.drew W0.heap.size b vl (.slice A1 s1.length c1) (.slice Aq q.length cq) l s1 q lim fu fa st off) := Lib.hid (HD6.out.below (below_drew (Below.refl _ _)))
  have HB7 : Hid (Below W0.heap.size W0 W6.drew) := Lib.hid (below_drew HB6.out)
  have HK7 : Hid (W6.drew.heap[bc]? = some (.cells #[.int .i64 kk, .string pa, .string tp, .int .i64 kd, .int .u32 mo, .int .u32 ui, .int .u32 gi, .int .i64 mt, .int .i64 at_, .string da, .bool su] 71 (0, 0))) := Lib.hid HK6.out
  have r0 := HD7.out.c2
  have r1 : W6.drew.cell? ⟨bc, 0, none⟩ = some (.int .i64 kk) := by rw [cell_of HK7.out]; rfl
  have r2 : W6.drew.cell? ⟨bc, 1, none⟩ = some (.string pa) := by rw [cell_of HK7.out]; rfl
  have r3 : W6.drew.cell? ⟨bc, 2, none⟩ = some (.string tp) := by rw [cell_of HK7.out]; rfl
  have r4 : W6.drew.cell? ⟨bc, 3, none⟩ = some (.int .i64 kd) := by rw [cell_of HK7.out]; rfl
  have r5 : W6.drew.cell? ⟨bc, 4, none⟩ = some (.int .u32 mo) := by rw [cell_of HK7.out]; rfl
  have r6 : W6.drew.cell? ⟨bc, 5, none⟩ = some (.int .u32 ui) := by rw [cell_of HK7.out]; rfl
  have r7 : W6.drew.cell? ⟨bc, 6, none⟩ = some (.int .u32 gi) := by rw [cell_of HK7.out]; rfl
  have r8 : W6.drew.cell? ⟨bc, 7, none⟩ = some (.int .i64 mt) := by rw [cell_of HK7.out]; rfl
  have r9 : W6.drew.cell? ⟨bc, 8, none⟩ = some (.int .i64 at_) := by rw [cell_of HK7.out]; rfl
  have r10 : W6.drew.cell? ⟨bc, 9, none⟩ = some (.string da) := by rw [cell_of HK7.out]; rfl
  have r11 : W6.drew.cell? ⟨bc, 10, none⟩ = some (.bool su) := by rw [cell_of HK7.out]; rfl
  refine start_ (n := 11) (S := fun w' => w'.cell? ⟨b, 2, none⟩ = some (.slice Aq q.length cq) ∧ w'.cell? ⟨bc, 0, none⟩ = some (.int .i64 kk) ∧ w'.cell? ⟨bc, 1, none⟩ = some (.string pa) ∧ w'.cell? ⟨bc, 2, none⟩ = some (.string tp) ∧ w'.cell? ⟨bc, 3, none⟩ = some (.int .i64 kd) ∧ w'.cell? ⟨bc, 4, none⟩ = some (.int .u32 mo) ∧ w'.cell? ⟨bc, 5, none⟩ = some (.int .u32 ui) ∧ w'.cell? ⟨bc, 6, none⟩ = some (.int .u32 gi) ∧ w'.cell? ⟨bc, 7, none⟩ = some (.int .i64 mt) ∧ w'.cell? ⟨bc, 8, none⟩ = some (.int .i64 at_) ∧ w'.cell? ⟨bc, 9, none⟩ = some (.string da) ∧ w'.cell? ⟨bc, 10, none⟩ = some (.bool su)) (ds := [10]) #[false, false, false, false, false, false, false, false, false, false, false] (by kernel_rfl) rfl rfl ⟨r0, r1, r2, r3, r4, r5, r6, r7, r8, r9, r10, r11⟩ (fun hHeld => ?_)
  generalize W6.drew = W7 at *
  refine pure_ (i := 0) (N := some 14) (v := ?_) (a' := ?_) #[true, false, false, false, false, false, false, false, false, false, false] rfl rfl (by kernel_rfl) (fun _ _ _ h => h) (Or.inl ⟨by rfl, ?_⟩) ?_ ?_
  rotate_left
  · intro w'
    go_simp
    with_reducible rfl
  rotate_left
  · simp only [Act.put, List.setIfInBounds_toArray, List.set_cons_zero, List.set_cons_succ, i64_w, i32_w]
    rfl
  refine pure_ (i := 1) (N := some 15) (v := ?_) (a' := ?_) #[true, true, false, false, false, false, false, false, false, false, false] rfl rfl (by kernel_rfl) (fun _ _ _ h => h) (Or.inl ⟨by rfl, ?_⟩) ?_ ?_
  rotate_left
  · intro w'
    go_simp
    with_reducible rfl
  rotate_left
  · simp only [Act.put, List.setIfInBounds_toArray, List.set_cons_zero, List.set_cons_succ, i64_w, i32_w]
    rfl
  refine pure_ (i := 2) (N := some 16) (v := ?_) (a' := ?_) #[true, true, true, false, false, false, false, false, false, false, false] rfl rfl (by kernel_rfl) (fun _ _ _ h => h) (Or.inl ⟨by rfl, ?_⟩) ?_ ?_
  rotate_left
  · intro w'
    go_simp
    with_reducible rfl
  rotate_left
  · simp only [Act.put, List.setIfInBounds_toArray, List.set_cons_zero, List.set_cons_succ, i64_w, i32_w]
    rfl
  refine pure_ (i := 3) (N := some 17) (v := ?_) (a' := ?_) #[true, true, true, true, false, false, false, false, false, false, false] rfl rfl (by kernel_rfl) (fun _ _ _ h => h) (Or.inl ⟨by rfl, ?_⟩) ?_ ?_
  rotate_left
  · intro w'
    go_simp
    with_reducible rfl
  rotate_left
  · simp only [Act.put, List.setIfInBounds_toArray, List.set_cons_zero, List.set_cons_succ, i64_w, i32_w]
    rfl
  refine take_ (i := 4) (N := some 18) (v := ?_) (a' := ?_) #[true, true, true, true, true, false, false, false, false, false, false] rfl rfl (by kernel_rfl) (fun _ _ _ h => h) (Or.inl ⟨by rfl, ?_⟩) hHeld ?_ ?_
  rotate_left
  · rintro w' ⟨s0, s1, s2, s3, s4, s5, s6, s7, s8, s9, s10, s11⟩
    go_simp
    with_reducible rfl
  rotate_left
  · simp only [Act.put, List.setIfInBounds_toArray, List.set_cons_zero, List.set_cons_succ, i64_w, i32_w]
    rfl
  refine take_ (i := 5) (N := some 19) (v := ?_) (a' := ?_) #[true, true, true, true, true, true, false, false, false, false, false] rfl rfl (by kernel_rfl) (fun _ _ _ h => h) (Or.inl ⟨by rfl, ?_⟩) hHeld ?_ ?_
  rotate_left
  · rintro w' ⟨s0, s1, s2, s3, s4, s5, s6, s7, s8, s9, s10, s11⟩
    go_simp
    with_reducible rfl
  rotate_left
  · simp only [Act.put, List.setIfInBounds_toArray, List.set_cons_zero, List.set_cons_succ, i64_w, i32_w]
    rfl
  refine one_ (i := 6) (N := some 20) #[true, true, true, true, true, true, true, false, false, false, false] rfl rfl (by kernel_rfl) (by decide) (fun K hK => ?_)
  refine value_ (w1 := ?_) (v := ?_) (by rfl) rfl ?_ ?_
  rotate_left 2
  · go_simp
    constructor
    · rfl
    · rfl
  refine hK.out _ _ ⟨pw_cell_below (below_one _ _) r0, pw_cell_below (below_one _ _) r1, pw_cell_below (below_one _ _) r2, pw_cell_below (below_one _ _) r3, pw_cell_below (below_one _ _) r4, pw_cell_below (below_one _ _) r5, pw_cell_below (below_one _ _) r6, pw_cell_below (below_one _ _) r7, pw_cell_below (below_one _ _) r8, pw_cell_below (below_one _ _) r9, pw_cell_below (below_one _ _) r10, pw_cell_below (below_one _ _) r11⟩ (fun hHeld => ?_)
  clear hK K
  refine norm_ (a' := ?_) ?_ ?_
  rotate_left
  · show Act.put _ (some 20) _ = _
    simp only [Act.put, List.setIfInBounds_toArray, List.set_cons_zero, List.set_cons_succ, i64_w, i32_w]
    rfl
  refine one_ (i := 7) (N := some 21) #[true, true, true, true, true, true, true, true, false, false, false] rfl rfl (by kernel_rfl) (by decide) (fun K hK => ?_)
  refine Kd.R_append_step chK (w0 := W7) W0.heap.size (by rfl) (.tmp 18) (.tmp 20) 67 71 (.agg #[.int .i64 0, .string ByteArray.empty, .string ByteArray.empty, .int .i64 0, .int .u32 0, .int .u32 0, .int .u32 0, .int .i64 0, .int .i64 0, .string ByteArray.empty, .bool false]) 104 rfl Tryd.underlying67 infoCh rfl (by decide) (by decide) _ q (kk, pa, tp, (kd, mo, ui, gi, mt, at_, da), su) [.int .i64 kk, .string pa, .string tp, .int .i64 kd, .int .u32 mo, .int .u32 ui, .int .u32 gi, .int .i64 mt, .int .i64 at_, .string da, .bool su] (fun _ => True) (fun _ => False) rfl rfl ?aP (fun _ hk => hk.elim) ?aF ?aO ?aB ?aS ?aL ?_
  (case aP => exact chK_M _ _ _ _ _ _ _ _ _ _ _ _ _ _)
  (case aB => exact Below.refl _ _)
  (case aF => exact (fun _ _ => trivial))
  (case aO => exact HD7.out.rq)
  (case aS => exact HB7.out.size)
  (case aL => omega)
  intro v1 w8 ho hb8 hg8 hat8
  obtain ⟨A2, c2, hv2⟩ := Kd.R_slice ho
  generalize (q ++ [(kk, pa, tp, (kd, mo, ui, gi, mt, at_, da), su)]).length = N at hv2
  subst hv2
  have HO8 := Lib.hid ho
  have HG8 := Lib.hid hg8
  have q0 := cell_grown hg8 r0 (Kd.R_ne HD7.out.rq HD7.out.blk (by decide))
  have q1 := cell_grown hg8 r1 HQB.out
  have q2 := cell_grown hg8 r2 HQB.out
  have q3 := cell_grown hg8 r3 HQB.out
  have q4 := cell_grown hg8 r4 HQB.out
  have q5 := cell_grown hg8 r5 HQB.out
  have q6 := cell_grown hg8 r6 HQB.out
  have q7 := cell_grown hg8 r7 HQB.out
  have q8 := cell_grown hg8 r8 HQB.out
  have q9 := cell_grown hg8 r9 HQB.out
  have q10 := cell_grown hg8 r10 HQB.out
  have q11 := cell_grown hg8 r11 HQB.out
  have z8 : w8.frozen? ⟨b, 2, none⟩ = false := frozen_of ((hg8.block b HD7.out.lt (Kd.R_ne HD7.out.rq HD7.out.blk (by decide))).trans HD7.out.blk) 2
  have HB8 := Lib.hid (below_grown HB7.out (Nat.le_refl _) hg8 (fun x hx => by obtain ⟨inner, hown⟩ := Kd.R_own HD7.out.rq; exact own_base hown x hx))
  clear ho hb8 hg8 hat8
  refine hK.out _ _ ⟨q0, q1, q2, q3, q4, q5, q6, q7, q8, q9, q10, q11⟩ (fun hHeld => ?_)
  clear hK K
  refine norm_ (a' := ?_) ?_ ?_
  rotate_left
  · show Act.put _ (some 21) _ = _
    simp only [Act.put, List.setIfInBounds_toArray, List.set_cons_zero, List.set_cons_succ, i64_w, i32_w]
    rfl
  refine pure_ (i := 8) (N := some 22) (v := ?_) (a' := ?_) #[true, true, true, true, true, true, true, true, true, false, false] rfl rfl (by kernel_rfl) (fun _ _ _ h => h) (Or.inl ⟨by rfl, ?_⟩) ?_ ?_
  rotate_left
  · intro w'
    go_simp
    with_reducible rfl
  rotate_left
  · simp only [Act.put, List.setIfInBounds_toArray, List.set_cons_zero, List.set_cons_succ, i64_w, i32_w]
    rfl
  refine pure_ (i := 9) (N := some 23) (v := ?_) (a' := ?_) #[true, true, true, true, true, true, true, true, true, true, false] rfl rfl (by kernel_rfl) (fun _ _ _ h => h) (Or.inl ⟨by rfl, ?_⟩) ?_ ?_
  rotate_left
  · intro w'
    go_simp
    with_reducible rfl
  rotate_left
  · simp only [Act.put, List.setIfInBounds_toArray, List.set_cons_zero, List.set_cons_succ, i64_w, i32_w]
    rfl
  refine last_ (i := 10) (N := none) #[true, true, true, true, true, true, true, true, true, true, true] rfl rfl (by kernel_rfl) (by decide) (fun K hK => ?_)
  refine skip_ (w1 := ?_) (by rfl) rfl ?_ ?_
  rotate_left
  · go_simp
    rfl
  refine hK.out _ _ ?_
  clear hK K
  refine done_ (by kernel_rfl) ?_

  have HD9 := Lib.hid (dwaits HD7.out HO8.out HG8.out)
  have HB9 := Lib.hid (below_grown HB8.out (Nat.le_refl _) (set_grown w8 b 2 (.slice A2 N c2)) (fun x hx => by injection hx with hx; have := HD7.out.nb; omega))
  have HE := Lib.hid (end_ok W0.heap.size b vl _ _ l s1 _ lim fu fa st off _ HD9.out hfu hst hst2)
  go_wp2_with fail
  refine HE.out.mono ?_
  rintro e w10 ⟨rfl, hd10, hg10⟩
  have HD10 := Lib.hid hd10
  have HB10 := Lib.hid (below_grown HB9.out (Nat.le_refl _) hg10 (fun x hx => by injection hx with hx; have := HD7.out.nb; omega))
  clear hd10 hg10
  go_wp2
  go_ret
  exact ⟨rfl, ⟨_, _, HD10.out⟩, HB10.out⟩
end Go.Proofs.YtfogfkikkekmkaaDoor.DiskWait
