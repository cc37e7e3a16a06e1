/- disk: a crash that keeps two changes of three. -/
import Derived.Test.YtfogfkikkekmkaaDoorDiskCrash
set_option linter.unusedVariables false
set_option linter.unusedSimpArgs false
namespace Go.Proofs.YtfogfkikkekmkaaDoor.DiskKept
open Go.RowKit Go.Proofs.YtfogfkikkekmkaaDoorW.PrintWords Go.Proofs.YtfogfkikkekmkaaDoorW.PrintLast Go.Proofs.YtfogfkikkekmkaaDoorW.PrintMore Go.Proofs.YtfogfkikkekmkaaDoor.NameWalk Go.Proofs.YtfogfkikkekmkaaDoor.Item Go.Proofs.YtfogfkikkekmkaaDoor.DiskAt Go.Proofs.YtfogfkikkekmkaaDoor.DiskReal Go.Proofs.YtfogfkikkekmkaaDoor.DiskSmall Go.Proofs.YtfogfkikkekmkaaDoor.DiskRows Go.Proofs.YtfogfkikkekmkaaDoor.DiskDone Go.Proofs.YtfogfkikkekmkaaDoor.DiskWait Go.Proofs.YtfogfkikkekmkaaDoor.DiskActs Go.Proofs.YtfogfkikkekmkaaDoor.DiskCrash

def cellsC (x : Ch) : List Value := [.int .i64 x.1, .string x.2.1, .string x.2.2.1, .int .i64 x.2.2.2.1.1, .int .u32 x.2.2.2.1.2.1, .int .u32 x.2.2.2.1.2.2.1, .int .u32 x.2.2.2.1.2.2.2.1, .int .i64 x.2.2.2.1.2.2.2.2.1, .int .i64 x.2.2.2.1.2.2.2.2.2.1, .string x.2.2.2.1.2.2.2.2.2.2, .bool x.2.2.2.2]
theorem chK_K {w : World} {x : Ch} {cs : List Value} (h : chK.K w x cs) : cs = cellsC x := by
  obtain ⟨a0, r0, rfl, h0, a1, r1, rfl, h1, a2, r2, rfl, h2, rn, a10, rfl, ⟨a3, r3, rfl, h3, a4, r4, rfl, h4, a5, r5, rfl, h5, a6, r6, rfl, h6, a7, r7, rfl, h7, a8, a9, rfl, h8, h9⟩, h10⟩ := h
  have e0 : a0 = [Value.int .i64 x.1] := h0
  have e1 : a1 = [Value.string x.2.1] := h1
  have e2 : a2 = [Value.string x.2.2.1] := h2
  have e3 : a3 = [Value.int .i64 x.2.2.2.1.1] := h3
  have e4 : a4 = [Value.int .u32 x.2.2.2.1.2.1] := h4
  have e5 : a5 = [Value.int .u32 x.2.2.2.1.2.2.1] := h5
  have e6 : a6 = [Value.int .u32 x.2.2.2.1.2.2.2.1] := h6
  have e7 : a7 = [Value.int .i64 x.2.2.2.1.2.2.2.2.1] := h7
  have e8 : a8 = [Value.int .i64 x.2.2.2.1.2.2.2.2.2.1] := h8
  have e9 : a9 = [Value.string x.2.2.2.1.2.2.2.2.2.2] := h9
  have e10 : a10 = [Value.bool x.2.2.2.2] := h10
  subst e0 e1 e2 e3 e4 e5 e6 e7 e8 e9 e10
  rfl
theorem ch_at {w : World} {ad : Addr} {c : Nat} {q : List Ch} (h : chK.C w (some ad) c q) {k : Nat} (hk : k < q.length) {x : Ch} (hx : q[k]? = some x) :
    w.cell? (ad.add (k * 11)) = some (.int .i64 x.1) ∧ w.cell? (⟨(ad.add (k * 11)).block, (ad.add (k * 11)).off + 1, none⟩) = some (.string x.2.1) ∧ w.cell? (⟨(ad.add (k * 11)).block, (ad.add (k * 11)).off + 2, none⟩) = some (.string x.2.2.1) ∧ w.cell? (⟨(ad.add (k * 11)).block, (ad.add (k * 11)).off + 3, none⟩) = some (.int .i64 x.2.2.2.1.1) ∧ w.cell? (⟨(ad.add (k * 11)).block, (ad.add (k * 11)).off + 4, none⟩) = some (.int .u32 x.2.2.2.1.2.1) ∧ w.cell? (⟨(ad.add (k * 11)).block, (ad.add (k * 11)).off + 5, none⟩) = some (.int .u32 x.2.2.2.1.2.2.1) ∧ w.cell? (⟨(ad.add (k * 11)).block, (ad.add (k * 11)).off + 6, none⟩) = some (.int .u32 x.2.2.2.1.2.2.2.1) ∧ w.cell? (⟨(ad.add (k * 11)).block, (ad.add (k * 11)).off + 7, none⟩) = some (.int .i64 x.2.2.2.1.2.2.2.2.1) ∧ w.cell? (⟨(ad.add (k * 11)).block, (ad.add (k * 11)).off + 8, none⟩) = some (.int .i64 x.2.2.2.1.2.2.2.2.2.1) ∧ w.cell? (⟨(ad.add (k * 11)).block, (ad.add (k * 11)).off + 9, none⟩) = some (.string x.2.2.2.1.2.2.2.2.2.2) ∧ w.cell? (⟨(ad.add (k * 11)).block, (ad.add (k * 11)).off + 10, none⟩) = some (.bool x.2.2.2.2) := by
  have h1 := h.1
  obtain ⟨ad', e, hc⟩ := h.2.2 (by omega)
  injection e with e
  subst e
  obtain ⟨cs, hl, hK, hcell⟩ := hc k _ hx
  have := chK_K hK
  subst this
  refine ⟨hcell 0 _ rfl, ?_, ?_, ?_, ?_, ?_, ?_, ?_, ?_, ?_, ?_⟩
  · have h := hcell 1 _ rfl
    rw [← Addr.add_add] at h
    exact h
  · have h := hcell 2 _ rfl
    rw [← Addr.add_add] at h
    exact h
  · have h := hcell 3 _ rfl
    rw [← Addr.add_add] at h
    exact h
  · have h := hcell 4 _ rfl
    rw [← Addr.add_add] at h
    exact h
  · have h := hcell 5 _ rfl
    rw [← Addr.add_add] at h
    exact h
  · have h := hcell 6 _ rfl
    rw [← Addr.add_add] at h
    exact h
  · have h := hcell 7 _ rfl
    rw [← Addr.add_add] at h
    exact h
  · have h := hcell 8 _ rfl
    rw [← Addr.add_add] at h
    exact h
  · have h := hcell 9 _ rfl
    rw [← Addr.add_add] at h
    exact h
  · have h := hcell 10 _ rfl
    rw [← Addr.add_add] at h
    exact h
set_option maxHeartbeats 8000000 in
set_option maxRecDepth 100000 in
theorem crash_two (W0 : World) (hg0 : Glob W0) (b : Nat) (vl vs vq : Value) (l s : List It) (q : List Ch) (hq3 : q.length = 3) (lim fu fa st : Int) (off : Bool) (ls : Nat → List It) (W : World) (hb0 : Below W0.heap.size W0 W)
    (h : DAt W W0.heap.size b vl vs vq (ls 0) s q lim fu fa st off)
    (hd : ∀ (k : Nat) (x : Ch), k < 2 → q[k]? = some x → ∀ W' v, Below W0.heap.size W0 W' → itemK.R 57 W' W0.heap.size (fun _ => True) v (ls k) → Calls Tryd.prog 43 #[v, .agg #[.int .i64 x.1, .string x.2.1, .string x.2.2.1, .int .i64 x.2.2.2.1.1, .int .u32 x.2.2.2.1.2.1, .int .u32 x.2.2.2.1.2.2.1, .int .u32 x.2.2.2.1.2.2.2.1, .int .i64 x.2.2.2.1.2.2.2.2.1, .int .i64 x.2.2.2.1.2.2.2.2.2.1, .string x.2.2.2.1.2.2.2.2.2.2, .bool x.2.2.2.2]] W' fun e w' => ∃ v1, e = .returned v1 ∧ RowPost W0.heap.size W' w' v v1 (ls (k + 1)))
    (hk : ∀ (k : Nat) (x : Ch), k < 2 → q[k]? = some x → x.2.2.2.2 = false ∧ (x.1 = 1 ∨ x.1 = 0 ∧ x.2.2.2.1.1 = 2)) (hl2 : 0 < (ls 2).length ∧ (ls 2).length ≤ 1000000) :
    Calls Tryd.prog 15 #[.pointer (some ⟨b, 0, none⟩), .agg #[.int .i64 2, .int .u64 0, .int .i64 0]] W fun e w' => e = .returned (.tuple #[]) ∧ (∃ vl1 vs1 vq1, DAt w' W0.heap.size b vl1 vs1 vq1 (ls 2) (ls 2) [] lim (-1) 0 st false) ∧ Below W0.heap.size W0 w' := by
  obtain ⟨aq, cq, rfl, hcq, hC⟩ : ∃ (aq : Addr) (cq : Nat), vq = .slice (some aq) 3 cq ∧ (3 : Int) ≤ (cq : Int) ∧ chK.C W (some aq) 3 q := by
    obtain ⟨A, c, e, hc, hC⟩ := Kd.R_reads h.rq
    obtain ⟨ad, e1, _⟩ := hC.2.2 (by omega)
    rw [hq3] at *
    subst e1
    exact ⟨ad, c, e, by omega, hC⟩
  have HC := Lib.hid hC
  have HDN := Lib.hid hd
  have HKN := Lib.hid hk
  have hb1 := below_one W (.cells #[.int .i64 2, .int .u64 0, .int .i64 0] 40)
  have HB1 := Lib.hid (hb0.trans (hb1.mono hb0.size))
  have HD1 := Lib.hid (h.below hb1)
  have HX1 := Lib.hid (heap_new W (.cells #[.int .i64 2, .int .u64 0, .int .i64 0] 40))
  clear hd hk hb1 hb0 h hC
  go_enter Tryd.func15, Tryd.ntmps15
  go_wp2
  have hm0 : max (2 : Int) 0 = 2 := by decide
  have hm1 : min (2 : Int) 3 = 2 := by decide
  have hcq2 : (2 : Int) ≤ (cq : Int) := by omega
  generalize W.alloc (.cells #[.int .i64 2, .int .u64 0, .int .i64 0] 40) = W1 at *
  generalize W.heap.size = bx at *
  have p0 : W1.drew.cell? ⟨b, 2, none⟩ = some (.slice (some aq) 3 cq) := HD1.out.c2
  have p1 : W1.drew.cell? ⟨bx, 0, none⟩ = some (.int .i64 2) := by
    have := HX1.out
    exact (cell_of this 0).trans rfl
  have HD4 : Hid (DAt W1.drew W0.heap.size b vl vs (.slice (some aq) 3 cq) (ls 0) s q lim fu fa st off) := Lib.hid (HD1.out.below (below_drew (Below.refl _ _)))
  have HB4 : Hid (Below W0.heap.size W0 W1.drew) := Lib.hid (below_drew HB1.out)
  have HX4 : Hid (W1.drew.heap[bx]? = some (.cells #[.int .i64 2, .int .u64 0, .int .i64 0] 40 (0, 0))) := Lib.hid HX1.out
  refine start_ (n := 16) (S := fun w' => w'.cell? ⟨b, 2, none⟩ = some (.slice (some aq) 3 cq) ∧ w'.cell? ⟨bx, 0, none⟩ = some (.int .i64 2)) (ds := []) #[false, false, false, false, false, false, false, false, false, false, false, false, false, false, false, false] (by kernel_rfl) rfl rfl ⟨p0, p1⟩ (fun hHeld => ?_)
  generalize W1.drew = W4 at *
  refine pure_ (i := 0) (N := some 9) (v := ?_) (a' := ?_) #[true, false, false, false, false, false, false, false, false, false, false, false, false, false, false, false] rfl rfl (by kernel_rfl) (fun _ _ _ h => h) (Or.inl ⟨by rfl, ?_⟩) ?_ ?_
  rotate_left
  · intro w'
    go_simp
    with_reducible rfl
  rotate_left
  · simp only [Act.put, List.setIfInBounds_toArray, List.set_cons_zero, List.set_cons_succ, i64_w, i32_w]
    rfl
  refine pure_ (i := 1) (N := some 10) (v := ?_) (a' := ?_) #[true, true, false, false, false, false, false, false, false, false, false, false, false, false, false, false] rfl rfl (by kernel_rfl) (fun _ _ _ h => h) (Or.inl ⟨by rfl, ?_⟩) ?_ ?_
  rotate_left
  · intro w'
    go_simp
    with_reducible rfl
  rotate_left
  · simp only [Act.put, List.setIfInBounds_toArray, List.set_cons_zero, List.set_cons_succ, i64_w, i32_w]
    rfl
  refine pure_ (i := 2) (N := some 11) (v := ?_) (a' := ?_) #[true, true, true, false, false, false, false, false, false, false, false, false, false, false, false, false] rfl rfl (by kernel_rfl) (fun _ _ _ h => h) (Or.inl ⟨by rfl, ?_⟩) ?_ ?_
  rotate_left
  · intro w'
    go_simp
    with_reducible rfl
  rotate_left
  · simp only [Act.put, List.setIfInBounds_toArray, List.set_cons_zero, List.set_cons_succ, i64_w, i32_w]
    rfl
  refine pure_ (i := 4) (N := some 13) (v := ?_) (a' := ?_) #[true, true, true, false, true, false, false, false, false, false, false, false, false, false, false, false] rfl rfl (by kernel_rfl) (fun _ _ _ h => h) (Or.inl ⟨by rfl, ?_⟩) ?_ ?_
  rotate_left
  · intro w'
    go_simp
    with_reducible rfl
  rotate_left
  · simp only [Act.put, List.setIfInBounds_toArray, List.set_cons_zero, List.set_cons_succ, i64_w, i32_w]
    rfl
  refine pure_ (i := 7) (N := some 16) (v := ?_) (a' := ?_) #[true, true, true, false, true, false, false, true, false, false, false, false, false, false, false, false] rfl rfl (by kernel_rfl) (fun _ _ _ h => h) (Or.inl ⟨by rfl, ?_⟩) ?_ ?_
  rotate_left
  · intro w'
    go_simp
    with_reducible rfl
  rotate_left
  · simp only [Act.put, List.setIfInBounds_toArray, List.set_cons_zero, List.set_cons_succ, i64_w, i32_w]
    rfl
  refine pure_ (i := 8) (N := some 17) (v := ?_) (a' := ?_) #[true, true, true, false, true, false, false, true, true, false, false, false, false, false, false, false] rfl rfl (by kernel_rfl) (fun _ _ _ h => h) (Or.inl ⟨by rfl, ?_⟩) ?_ ?_
  rotate_left
  · intro w'
    go_simp
    with_reducible rfl
  rotate_left
  · simp only [Act.put, List.setIfInBounds_toArray, List.set_cons_zero, List.set_cons_succ, i64_w, i32_w]
    rfl
  refine pure_ (i := 9) (N := some 18) (v := ?_) (a' := ?_) #[true, true, true, false, true, false, false, true, true, true, false, false, false, false, false, false] rfl rfl (by kernel_rfl) (fun _ _ _ h => h) (Or.inl ⟨by rfl, ?_⟩) ?_ ?_
  rotate_left
  · intro w'
    go_simp
    with_reducible rfl
  rotate_left
  · simp only [Act.put, List.setIfInBounds_toArray, List.set_cons_zero, List.set_cons_succ, i64_w, i32_w]
    rfl
  refine pure_ (i := 15) (N := some 24) (v := ?_) (a' := ?_) #[true, true, true, false, true, false, false, true, true, true, false, false, false, false, false, true] rfl rfl (by kernel_rfl) (fun _ _ _ h => h) (Or.inl ⟨by rfl, ?_⟩) ?_ ?_
  rotate_left
  · intro w'
    go_simp
    with_reducible rfl
  rotate_left
  · simp only [Act.put, List.setIfInBounds_toArray, List.set_cons_zero, List.set_cons_succ, i64_w, i32_w]
    rfl
  refine take_ (i := 3) (N := some 12) (v := ?_) (a' := ?_) #[true, true, true, true, true, false, false, true, true, true, false, false, false, false, false, true] rfl rfl (by kernel_rfl) (fun _ _ _ h => h) (Or.inl ⟨by rfl, ?_⟩) hHeld ?_ ?_
  rotate_left
  · rintro w' ⟨s0, s1⟩
    go_simp
    with_reducible rfl
  rotate_left
  · simp only [Act.put, List.setIfInBounds_toArray, List.set_cons_zero, List.set_cons_succ, i64_w, i32_w]
    rfl
  refine take_ (i := 5) (N := some 14) (v := ?_) (a' := ?_) #[true, true, true, true, true, true, false, true, true, true, false, false, false, false, false, true] rfl rfl (by kernel_rfl) (fun _ _ _ h => h) (Or.inl ⟨by rfl, ?_⟩) hHeld ?_ ?_
  rotate_left
  · rintro w' ⟨s0, s1⟩
    go_simp
    with_reducible rfl
  rotate_left
  · simp only [Act.put, List.setIfInBounds_toArray, List.set_cons_zero, List.set_cons_succ, i64_w, i32_w]
    rfl
  refine pure_ (i := 6) (N := some 15) (v := ?_) (a' := ?_) #[true, true, true, true, true, true, true, true, true, true, false, false, false, false, false, true] rfl rfl (by kernel_rfl) (fun _ _ _ h => h) (Or.inl ⟨by rfl, ?_⟩) ?_ ?_
  rotate_left
  · intro w'
    go_simp
    with_reducible rfl
  rotate_left
  · simp only [Act.put, List.setIfInBounds_toArray, List.set_cons_zero, List.set_cons_succ, i64_w, i32_w]
    rfl
  refine take_ (i := 10) (N := some 19) (v := ?_) (a' := ?_) #[true, true, true, true, true, true, true, true, true, true, true, false, false, false, false, true] rfl rfl (by kernel_rfl) (fun _ _ _ h => h) (Or.inl ⟨by rfl, ?_⟩) hHeld ?_ ?_
  rotate_left
  · rintro w' ⟨s0, s1⟩
    go_simp
    with_reducible rfl
  rotate_left
  · simp only [Act.put, List.setIfInBounds_toArray, List.set_cons_zero, List.set_cons_succ, i64_w, i32_w]
    rfl
  refine pure_ (i := 11) (N := some 20) (v := ?_) (a' := ?_) #[true, true, true, true, true, true, true, true, true, true, true, true, false, false, false, true] rfl rfl (by kernel_rfl) (fun _ _ _ h => h) (Or.inl ⟨by rfl, ?_⟩) ?_ ?_
  rotate_left
  · intro w'
    go_simp
    with_reducible rfl
  rotate_left
  · simp only [Act.put, List.setIfInBounds_toArray, List.set_cons_zero, List.set_cons_succ, i64_w, i32_w]
    rfl
  refine pure_ (i := 12) (N := some 21) (v := ?_) (a' := ?_) #[true, true, true, true, true, true, true, true, true, true, true, true, true, false, false, true] rfl rfl (by kernel_rfl) (fun _ _ _ h => h) (Or.inl ⟨by rfl, ?_⟩) ?_ ?_
  rotate_left
  · intro w'
    go_simp
    with_reducible rfl
  rotate_left
  · simp only [Act.put, List.setIfInBounds_toArray, List.set_cons_zero, List.set_cons_succ, i64_w, i32_w]
    rfl
  refine pure_ (i := 13) (N := some 22) (v := ?_) (a' := ?_) #[true, true, true, true, true, true, true, true, true, true, true, true, true, true, false, true] rfl rfl (by kernel_rfl) (fun _ _ _ h => h) (Or.inl ⟨by rfl, ?_⟩) ?_ ?_
  rotate_left
  · intro w'
    go_simp
    with_reducible rfl
  rotate_left
  · simp only [Act.put, List.setIfInBounds_toArray, List.set_cons_zero, List.set_cons_succ, i64_w, i32_w]
    rfl
  refine pure_ (i := 14) (N := some 23) (v := ?_) (a' := ?_) #[true, true, true, true, true, true, true, true, true, true, true, true, true, true, true, true] rfl rfl (by kernel_rfl) (fun _ _ _ h => h) (Or.inl ⟨by rfl, ?_⟩) ?_ ?_
  rotate_left
  · intro w'
    go_simp
    with_reducible rfl
  rotate_left
  · simp only [Act.put, List.setIfInBounds_toArray, List.set_cons_zero, List.set_cons_succ, i64_w, i32_w]
    rfl
  refine done_ (by kernel_rfl) ?_

  clear hHeld p0 p1
  go_wp2
  have hcq1 : (2 : Nat) ≤ cq := by omega
  go_loopw [4, 24] (fun u i wr => ∃ (k : Nat) (v : Value), k ≤ 2 ∧ i = .int .i64 k ∧ u = .int .i64 k ∧ Hid (DAt wr W0.heap.size b v vs (.slice (some aq) 3 cq) (ls k) s q lim fu fa st off) ∧ Hid (Below W0.heap.size W0 wr) ∧ Hid (wr.heap[bx]? = some (.cells #[.int .i64 2, .int .u64 0, .int .i64 0] 40 (0, 0)))) (fun _ i _ => 2 - (intOf i).toNat)
  case atStart => exact ⟨0, vl, by omega, rfl, rfl, HD4, HB4, HX4⟩
  case round =>
    clear HD4 HB4 HX4 HD1 HB1 HX1
    obtain ⟨k, v, hk, rfl, rfl, HD, HB, HX⟩ := hrel
    by_cases hlt : k < 2
    · have hltI : (k : Int) < 2 := by omega
      have hkq : (k : Int) < 64 := by omega
      obtain ⟨x, hx⟩ : ∃ x, q[k]? = some x := ⟨_, List.getElem?_eq_getElem (by omega)⟩
      obtain ⟨A, c, e, _, hC⟩ := Kd.R_reads HD.out.rq
      injection e with i1 i2 i3
      subst i1
      clear i2 i3
      obtain ⟨e0, e1, e2, e3, e4, e5, e6, e7, e8, e9, e10⟩ := ch_at hC (by omega) hx
      obtain ⟨hsu, hkk⟩ := HKN.out k x hlt hx
      have HDO := Lib.hid (HDN.out k x hlt hx)
      obtain ⟨kk, pa, tp, ⟨kd, mo, ui, gi, mt, at_, da⟩, su⟩ := x
      simp only at e0 e1 e2 e3 e4 e5 e6 e7 e8 e9 e10 hsu hkk
      subst hsu
      simp only at HDO
      clear hC hx
      have px : ∀ o, (wr.alloc o).cell? ⟨bx, 1, none⟩ = some (.int .u64 0) := fun o => pw_cell_below (below_one wr o) ((cell_of HX.out 1).trans rfl)
      rcases hkk with rfl | ⟨rfl, rfl⟩
      · go_wp2
        obtain ⟨Av, cv, rfl⟩ := Kd.R_slice HD.out.rl
        have hb5 := below_one wr (.cells #[.int .i64 1, .string pa, .string tp, .int .i64 kd, .int .u32 mo, .int .u32 ui, .int .u32 gi, .int .i64 mt, .int .i64 at_, .string da, .bool false] 71)
        have HB5 := Lib.hid (HB.out.trans (hb5.mono HB.out.size))
        have HD5 := Lib.hid (HD.out.below hb5)
        have HX5 := Lib.hid ((hb5.block bx (Array.getElem?_eq_some_iff.1 HX.out).1).trans HX.out)
        have HK5 := Lib.hid (heap_new wr (.cells #[.int .i64 1, .string pa, .string tp, .int .i64 kd, .int .u32 mo, .int .u32 ui, .int .u32 gi, .int .i64 mt, .int .i64 at_, .string da, .bool false] 71))
        have HBX := Lib.hid (show b ≠ bx from fun e => by
          have h1 := HD.out.blk
          rw [e, HX.out] at h1
          injection h1 with h1
          injection h1 with _ h1
          exact absurd h1 (by decide))
        clear hb5 HD HB
        clear e0 e1 e2 e3 e4 e5 e6 e7 e8 e9 e10 px HX
        generalize wr.alloc (.cells #[.int .i64 1, .string pa, .string tp, .int .i64 kd, .int .u32 mo, .int .u32 ui, .int .u32 gi, .int .i64 mt, .int .i64 at_, .string da, .bool false] 71) = W5 at *
        generalize wr.heap.size = bc at *
        have HD6 : Hid (DAt W5.drew W0.heap.size b _ vs (.slice (some aq) 3 cq) (ls k) s q lim fu fa st off) := Lib.hid (HD5.out.below (below_drew (Below.refl _ _)))
        have HB6 : Hid (Below W0.heap.size W0 W5.drew) := Lib.hid (below_drew HB5.out)
        have HX6 : Hid (W5.drew.heap[bx]? = some (.cells #[.int .i64 2, .int .u64 0, .int .i64 0] 40 (0, 0))) := Lib.hid HX5.out
        have HK6 : Hid (W5.drew.heap[bc]? = some (.cells #[.int .i64 1, .string pa, .string tp, .int .i64 kd, .int .u32 mo, .int .u32 ui, .int .u32 gi, .int .i64 mt, .int .i64 at_, .string da, .bool false] 71 (0, 0))) := Lib.hid HK5.out
        clear HD5 HB5 HX5 HK5
        have p0 := HD6.out.c0
        have p1 : W5.drew.cell? ⟨bc, 0, none⟩ = some (.int .i64 1) := by rw [cell_of HK6.out]; rfl
        have p2 : W5.drew.cell? ⟨bc, 1, none⟩ = some (.string pa) := by rw [cell_of HK6.out]; rfl
        have p3 : W5.drew.cell? ⟨bc, 2, none⟩ = some (.string tp) := by rw [cell_of HK6.out]; rfl
        have p4 : W5.drew.cell? ⟨bc, 3, none⟩ = some (.int .i64 kd) := by rw [cell_of HK6.out]; rfl
        have p5 : W5.drew.cell? ⟨bc, 4, none⟩ = some (.int .u32 mo) := by rw [cell_of HK6.out]; rfl
        have p6 : W5.drew.cell? ⟨bc, 5, none⟩ = some (.int .u32 ui) := by rw [cell_of HK6.out]; rfl
        have p7 : W5.drew.cell? ⟨bc, 6, none⟩ = some (.int .u32 gi) := by rw [cell_of HK6.out]; rfl
        have p8 : W5.drew.cell? ⟨bc, 7, none⟩ = some (.int .i64 mt) := by rw [cell_of HK6.out]; rfl
        have p9 : W5.drew.cell? ⟨bc, 8, none⟩ = some (.int .i64 at_) := by rw [cell_of HK6.out]; rfl
        have p10 : W5.drew.cell? ⟨bc, 9, none⟩ = some (.string da) := by rw [cell_of HK6.out]; rfl
        have p11 : W5.drew.cell? ⟨bc, 10, none⟩ = some (.bool false) := by rw [cell_of HK6.out]; rfl
        refine start_ (n := 10) (S := fun w' => w'.cell? ⟨b, 0, none⟩ = some (.slice Av (ls k).length cv) ∧ w'.cell? ⟨bc, 0, none⟩ = some (.int .i64 1) ∧ w'.cell? ⟨bc, 1, none⟩ = some (.string pa) ∧ w'.cell? ⟨bc, 2, none⟩ = some (.string tp) ∧ w'.cell? ⟨bc, 3, none⟩ = some (.int .i64 kd) ∧ w'.cell? ⟨bc, 4, none⟩ = some (.int .u32 mo) ∧ w'.cell? ⟨bc, 5, none⟩ = some (.int .u32 ui) ∧ w'.cell? ⟨bc, 6, none⟩ = some (.int .u32 gi) ∧ w'.cell? ⟨bc, 7, none⟩ = some (.int .i64 mt) ∧ w'.cell? ⟨bc, 8, none⟩ = some (.int .i64 at_) ∧ w'.cell? ⟨bc, 9, none⟩ = some (.string da) ∧ w'.cell? ⟨bc, 10, none⟩ = some (.bool false)) (ds := [9]) #[false, false, false, false, false, false, false, false, false, false] (by kernel_rfl) rfl rfl ⟨p0, p1, p2, p3, p4, p5, p6, p7, p8, p9, p10, p11⟩ (fun hHeld => ?_)
        generalize W5.drew = W6 at *
        refine pure_ (i := 0) (N := some 63) (v := ?_) (a' := ?_) #[true, false, false, false, false, false, false, false, false, false] rfl rfl (by kernel_rfl) (fun _ _ _ h => h) (Or.inl ⟨by rfl, ?_⟩) ?_ ?_
        rotate_left
        · intro w'
          go_simp
          with_reducible rfl
        rotate_left
        · simp only [Act.put, List.setIfInBounds_toArray, List.set_cons_zero, List.set_cons_succ, i64_w, i32_w]
          rfl
        refine pure_ (i := 1) (N := some 64) (v := ?_) (a' := ?_) #[true, true, false, false, false, false, false, false, false, false] rfl rfl (by kernel_rfl) (fun _ _ _ h => h) (Or.inl ⟨by rfl, ?_⟩) ?_ ?_
        rotate_left
        · intro w'
          go_simp
          with_reducible rfl
        rotate_left
        · simp only [Act.put, List.setIfInBounds_toArray, List.set_cons_zero, List.set_cons_succ, i64_w, i32_w]
          rfl
        refine pure_ (i := 2) (N := some 65) (v := ?_) (a' := ?_) #[true, true, true, false, false, false, false, false, false, false] rfl rfl (by kernel_rfl) (fun _ _ _ h => h) (Or.inl ⟨by rfl, ?_⟩) ?_ ?_
        rotate_left
        · intro w'
          go_simp
          with_reducible rfl
        rotate_left
        · simp only [Act.put, List.setIfInBounds_toArray, List.set_cons_zero, List.set_cons_succ, i64_w, i32_w]
          rfl
        refine pure_ (i := 3) (N := some 66) (v := ?_) (a' := ?_) #[true, true, true, true, false, false, false, false, false, false] rfl rfl (by kernel_rfl) (fun _ _ _ h => h) (Or.inl ⟨by rfl, ?_⟩) ?_ ?_
        rotate_left
        · intro w'
          go_simp
          with_reducible rfl
        rotate_left
        · simp only [Act.put, List.setIfInBounds_toArray, List.set_cons_zero, List.set_cons_succ, i64_w, i32_w]
          rfl
        refine take_ (i := 4) (N := some 67) (v := ?_) (a' := ?_) #[true, true, true, true, true, false, false, false, false, false] rfl rfl (by kernel_rfl) (fun _ _ _ h => h) (Or.inl ⟨by rfl, ?_⟩) hHeld ?_ ?_
        rotate_left
        · rintro w' ⟨s0, s1, s2, s3, s4, s5, s6, s7, s8, s9, s10, s11⟩
          go_simp
          with_reducible rfl
        rotate_left
        · simp only [Act.put, List.setIfInBounds_toArray, List.set_cons_zero, List.set_cons_succ, i64_w, i32_w]
          rfl
        refine take_ (i := 5) (N := some 68) (v := ?_) (a' := ?_) #[true, true, true, true, true, true, false, false, false, false] rfl rfl (by kernel_rfl) (fun _ _ _ h => h) (Or.inl ⟨by rfl, ?_⟩) hHeld ?_ ?_
        rotate_left
        · rintro w' ⟨s0, s1, s2, s3, s4, s5, s6, s7, s8, s9, s10, s11⟩
          go_simp
          with_reducible rfl
        rotate_left
        · simp only [Act.put, List.setIfInBounds_toArray, List.set_cons_zero, List.set_cons_succ, i64_w, i32_w]
          rfl
        refine one_ (i := 6) (N := some 69) #[true, true, true, true, true, true, true, false, false, false] rfl rfl (by kernel_rfl) (by decide) (fun K hK => ?_)
        refine goes_ Tryd.func43 (by kernel_rfl) rfl #[.slice Av (ls k).length cv, .agg #[.int .i64 1, .string pa, .string tp, .int .i64 kd, .int .u32 mo, .int .u32 ui, .int .u32 gi, .int .i64 mt, .int .i64 at_, .string da, .bool false]] (by rfl) rfl rfl (by simp only [List.map_toArray, List.map_cons, List.map_nil]; rfl) ?_
        with_reducible refine (HDO.out W6 _ HB6.out (Kd.R_mono HD6.out.rl (fun _ _ => trivial))).mono ?_
        rintro e w7 ⟨v1, rfl, hp7⟩
        refine ⟨_, rfl, ?_⟩
        obtain ⟨A1, c1, rfl⟩ := Kd.R_slice hp7.1
        have HP7 := Lib.hid hp7
        have q0 := cell_grown hp7.2.1 p0 (Kd.R_ne HD6.out.rl HD6.out.blk (by decide))
        have q1 := cell_grown hp7.2.1 p1 (Kd.R_ne HD6.out.rl HK6.out (by decide))
        have q2 := cell_grown hp7.2.1 p2 (Kd.R_ne HD6.out.rl HK6.out (by decide))
        have q3 := cell_grown hp7.2.1 p3 (Kd.R_ne HD6.out.rl HK6.out (by decide))
        have q4 := cell_grown hp7.2.1 p4 (Kd.R_ne HD6.out.rl HK6.out (by decide))
        have q5 := cell_grown hp7.2.1 p5 (Kd.R_ne HD6.out.rl HK6.out (by decide))
        have q6 := cell_grown hp7.2.1 p6 (Kd.R_ne HD6.out.rl HK6.out (by decide))
        have q7 := cell_grown hp7.2.1 p7 (Kd.R_ne HD6.out.rl HK6.out (by decide))
        have q8 := cell_grown hp7.2.1 p8 (Kd.R_ne HD6.out.rl HK6.out (by decide))
        have q9 := cell_grown hp7.2.1 p9 (Kd.R_ne HD6.out.rl HK6.out (by decide))
        have q10 := cell_grown hp7.2.1 p10 (Kd.R_ne HD6.out.rl HK6.out (by decide))
        have q11 := cell_grown hp7.2.1 p11 (Kd.R_ne HD6.out.rl HK6.out (by decide))
        have z7 : w7.frozen? ⟨b, 0, none⟩ = false := frozen_of ((hp7.2.1.block b HD6.out.lt (Kd.R_ne HD6.out.rl HD6.out.blk (by decide))).trans HD6.out.blk) 0
        have HX7 := Lib.hid ((hp7.2.1.block bx (Array.getElem?_eq_some_iff.1 HX6.out).1 (Kd.R_ne HD6.out.rl HX6.out (by decide))).trans HX6.out)
        have HB7 := Lib.hid (below_grown HB6.out (Nat.le_refl _) hp7.2.1 (fun x hx => by obtain ⟨inner, hown⟩ := Kd.R_own HD6.out.rl; exact own_base hown x hx))
        clear hp7
        refine hK.out _ _ ⟨q0, q1, q2, q3, q4, q5, q6, q7, q8, q9, q10, q11⟩ (fun hHeld => ?_)
        clear hK K
        refine norm_ (a' := ?_) ?_ ?_
        rotate_left
        · show Act.put _ (some 69) _ = _
          simp only [Act.put, List.setIfInBounds_toArray, List.set_cons_zero, List.set_cons_succ, i64_w, i32_w]
          rfl
        refine pure_ (i := 7) (N := some 70) (v := ?_) (a' := ?_) #[true, true, true, true, true, true, true, true, false, false] rfl rfl (by kernel_rfl) (fun _ _ _ h => h) (Or.inl ⟨by rfl, ?_⟩) ?_ ?_
        rotate_left
        · intro w'
          go_simp
          with_reducible rfl
        rotate_left
        · simp only [Act.put, List.setIfInBounds_toArray, List.set_cons_zero, List.set_cons_succ, i64_w, i32_w]
          rfl
        refine pure_ (i := 8) (N := some 71) (v := ?_) (a' := ?_) #[true, true, true, true, true, true, true, true, true, false] rfl rfl (by kernel_rfl) (fun _ _ _ h => h) (Or.inl ⟨by rfl, ?_⟩) ?_ ?_
        rotate_left
        · intro w'
          go_simp
          with_reducible rfl
        rotate_left
        · simp only [Act.put, List.setIfInBounds_toArray, List.set_cons_zero, List.set_cons_succ, i64_w, i32_w]
          rfl
        refine last_ (i := 9) (N := none) #[true, true, true, true, true, true, true, true, true, true] rfl rfl (by kernel_rfl) (by decide) (fun K hK => ?_)
        refine skip_ (w1 := ?_) (by rfl) rfl ?_ ?_
        rotate_left
        · go_simp
          rfl
        refine hK.out _ _ ?_
        clear hK K
        refine done_ (by kernel_rfl) ?_

        have HD8 := Lib.hid (dlasts HD6.out HP7.out)
        have HB8 := Lib.hid (below_grown HB7.out (Nat.le_refl _) (set_grown w7 b 0 (.slice A1 (ls (k + 1)).length c1)) (fun x hx => by injection hx with hx; have := HD6.out.nb; omega))
        have HX8 := Lib.hid (blk_far HX7.out (p := ⟨b, 0, none⟩) (fun e => HBX.out e.symm) (.slice A1 (ls (k + 1)).length c1))
        clear p0 p1 p2 p3 p4 p5 p6 p7 p8 p9 p10 p11 q0 q1 q2 q3 q4 q5 q6 q7 q8 q9 q10 q11 z7
        go_wp2
        go_roundw
        case rel => exact ⟨k + 1, _, by omega, by go_num, by go_num, HD8, HB8, HX8⟩
        case measure => simp [intOf]; omega
      · go_wp2
        obtain ⟨Av, cv, rfl⟩ := Kd.R_slice HD.out.rl
        have hb5 := below_one wr (.cells #[.int .i64 0, .string pa, .string tp, .int .i64 2, .int .u32 mo, .int .u32 ui, .int .u32 gi, .int .i64 mt, .int .i64 at_, .string da, .bool false] 71)
        have HB5 := Lib.hid (HB.out.trans (hb5.mono HB.out.size))
        have HD5 := Lib.hid (HD.out.below hb5)
        have HX5 := Lib.hid ((hb5.block bx (Array.getElem?_eq_some_iff.1 HX.out).1).trans HX.out)
        have HK5 := Lib.hid (heap_new wr (.cells #[.int .i64 0, .string pa, .string tp, .int .i64 2, .int .u32 mo, .int .u32 ui, .int .u32 gi, .int .i64 mt, .int .i64 at_, .string da, .bool false] 71))
        have HBX := Lib.hid (show b ≠ bx from fun e => by
          have h1 := HD.out.blk
          rw [e, HX.out] at h1
          injection h1 with h1
          injection h1 with _ h1
          exact absurd h1 (by decide))
        clear hb5 HD HB
        clear e0 e1 e2 e3 e4 e5 e6 e7 e8 e9 e10 px HX
        generalize wr.alloc (.cells #[.int .i64 0, .string pa, .string tp, .int .i64 2, .int .u32 mo, .int .u32 ui, .int .u32 gi, .int .i64 mt, .int .i64 at_, .string da, .bool false] 71) = W5 at *
        generalize wr.heap.size = bc at *
        have HD6 : Hid (DAt W5.drew W0.heap.size b _ vs (.slice (some aq) 3 cq) (ls k) s q lim fu fa st off) := Lib.hid (HD5.out.below (below_drew (Below.refl _ _)))
        have HB6 : Hid (Below W0.heap.size W0 W5.drew) := Lib.hid (below_drew HB5.out)
        have HX6 : Hid (W5.drew.heap[bx]? = some (.cells #[.int .i64 2, .int .u64 0, .int .i64 0] 40 (0, 0))) := Lib.hid HX5.out
        have HK6 : Hid (W5.drew.heap[bc]? = some (.cells #[.int .i64 0, .string pa, .string tp, .int .i64 2, .int .u32 mo, .int .u32 ui, .int .u32 gi, .int .i64 mt, .int .i64 at_, .string da, .bool false] 71 (0, 0))) := Lib.hid HK5.out
        clear HD5 HB5 HX5 HK5
        have p0 := HD6.out.c0
        have p1 : W5.drew.cell? ⟨bc, 0, none⟩ = some (.int .i64 0) := by rw [cell_of HK6.out]; rfl
        have p2 : W5.drew.cell? ⟨bc, 1, none⟩ = some (.string pa) := by rw [cell_of HK6.out]; rfl
        have p3 : W5.drew.cell? ⟨bc, 2, none⟩ = some (.string tp) := by rw [cell_of HK6.out]; rfl
        have p4 : W5.drew.cell? ⟨bc, 3, none⟩ = some (.int .i64 2) := by rw [cell_of HK6.out]; rfl
        have p5 : W5.drew.cell? ⟨bc, 4, none⟩ = some (.int .u32 mo) := by rw [cell_of HK6.out]; rfl
        have p6 : W5.drew.cell? ⟨bc, 5, none⟩ = some (.int .u32 ui) := by rw [cell_of HK6.out]; rfl
        have p7 : W5.drew.cell? ⟨bc, 6, none⟩ = some (.int .u32 gi) := by rw [cell_of HK6.out]; rfl
        have p8 : W5.drew.cell? ⟨bc, 7, none⟩ = some (.int .i64 mt) := by rw [cell_of HK6.out]; rfl
        have p9 : W5.drew.cell? ⟨bc, 8, none⟩ = some (.int .i64 at_) := by rw [cell_of HK6.out]; rfl
        have p10 : W5.drew.cell? ⟨bc, 9, none⟩ = some (.string da) := by rw [cell_of HK6.out]; rfl
        have p11 : W5.drew.cell? ⟨bc, 10, none⟩ = some (.bool false) := by rw [cell_of HK6.out]; rfl
        refine start_ (n := 10) (S := fun w' => w'.cell? ⟨b, 0, none⟩ = some (.slice Av (ls k).length cv) ∧ w'.cell? ⟨bc, 0, none⟩ = some (.int .i64 0) ∧ w'.cell? ⟨bc, 1, none⟩ = some (.string pa) ∧ w'.cell? ⟨bc, 2, none⟩ = some (.string tp) ∧ w'.cell? ⟨bc, 3, none⟩ = some (.int .i64 2) ∧ w'.cell? ⟨bc, 4, none⟩ = some (.int .u32 mo) ∧ w'.cell? ⟨bc, 5, none⟩ = some (.int .u32 ui) ∧ w'.cell? ⟨bc, 6, none⟩ = some (.int .u32 gi) ∧ w'.cell? ⟨bc, 7, none⟩ = some (.int .i64 mt) ∧ w'.cell? ⟨bc, 8, none⟩ = some (.int .i64 at_) ∧ w'.cell? ⟨bc, 9, none⟩ = some (.string da) ∧ w'.cell? ⟨bc, 10, none⟩ = some (.bool false)) (ds := [9]) #[false, false, false, false, false, false, false, false, false, false] (by kernel_rfl) rfl rfl ⟨p0, p1, p2, p3, p4, p5, p6, p7, p8, p9, p10, p11⟩ (fun hHeld => ?_)
        generalize W5.drew = W6 at *
        refine pure_ (i := 0) (N := some 63) (v := ?_) (a' := ?_) #[true, false, false, false, false, false, false, false, false, false] rfl rfl (by kernel_rfl) (fun _ _ _ h => h) (Or.inl ⟨by rfl, ?_⟩) ?_ ?_
        rotate_left
        · intro w'
          go_simp
          with_reducible rfl
        rotate_left
        · simp only [Act.put, List.setIfInBounds_toArray, List.set_cons_zero, List.set_cons_succ, i64_w, i32_w]
          rfl
        refine pure_ (i := 1) (N := some 64) (v := ?_) (a' := ?_) #[true, true, false, false, false, false, false, false, false, false] rfl rfl (by kernel_rfl) (fun _ _ _ h => h) (Or.inl ⟨by rfl, ?_⟩) ?_ ?_
        rotate_left
        · intro w'
          go_simp
          with_reducible rfl
        rotate_left
        · simp only [Act.put, List.setIfInBounds_toArray, List.set_cons_zero, List.set_cons_succ, i64_w, i32_w]
          rfl
        refine pure_ (i := 2) (N := some 65) (v := ?_) (a' := ?_) #[true, true, true, false, false, false, false, false, false, false] rfl rfl (by kernel_rfl) (fun _ _ _ h => h) (Or.inl ⟨by rfl, ?_⟩) ?_ ?_
        rotate_left
        · intro w'
          go_simp
          with_reducible rfl
        rotate_left
        · simp only [Act.put, List.setIfInBounds_toArray, List.set_cons_zero, List.set_cons_succ, i64_w, i32_w]
          rfl
        refine pure_ (i := 3) (N := some 66) (v := ?_) (a' := ?_) #[true, true, true, true, false, false, false, false, false, false] rfl rfl (by kernel_rfl) (fun _ _ _ h => h) (Or.inl ⟨by rfl, ?_⟩) ?_ ?_
        rotate_left
        · intro w'
          go_simp
          with_reducible rfl
        rotate_left
        · simp only [Act.put, List.setIfInBounds_toArray, List.set_cons_zero, List.set_cons_succ, i64_w, i32_w]
          rfl
        refine take_ (i := 4) (N := some 67) (v := ?_) (a' := ?_) #[true, true, true, true, true, false, false, false, false, false] rfl rfl (by kernel_rfl) (fun _ _ _ h => h) (Or.inl ⟨by rfl, ?_⟩) hHeld ?_ ?_
        rotate_left
        · rintro w' ⟨s0, s1, s2, s3, s4, s5, s6, s7, s8, s9, s10, s11⟩
          go_simp
          with_reducible rfl
        rotate_left
        · simp only [Act.put, List.setIfInBounds_toArray, List.set_cons_zero, List.set_cons_succ, i64_w, i32_w]
          rfl
        refine take_ (i := 5) (N := some 68) (v := ?_) (a' := ?_) #[true, true, true, true, true, true, false, false, false, false] rfl rfl (by kernel_rfl) (fun _ _ _ h => h) (Or.inl ⟨by rfl, ?_⟩) hHeld ?_ ?_
        rotate_left
        · rintro w' ⟨s0, s1, s2, s3, s4, s5, s6, s7, s8, s9, s10, s11⟩
          go_simp
          with_reducible rfl
        rotate_left
        · simp only [Act.put, List.setIfInBounds_toArray, List.set_cons_zero, List.set_cons_succ, i64_w, i32_w]
          rfl
        refine one_ (i := 6) (N := some 69) #[true, true, true, true, true, true, true, false, false, false] rfl rfl (by kernel_rfl) (by decide) (fun K hK => ?_)
        refine goes_ Tryd.func43 (by kernel_rfl) rfl #[.slice Av (ls k).length cv, .agg #[.int .i64 0, .string pa, .string tp, .int .i64 2, .int .u32 mo, .int .u32 ui, .int .u32 gi, .int .i64 mt, .int .i64 at_, .string da, .bool false]] (by rfl) rfl rfl (by simp only [List.map_toArray, List.map_cons, List.map_nil]; rfl) ?_
        with_reducible refine (HDO.out W6 _ HB6.out (Kd.R_mono HD6.out.rl (fun _ _ => trivial))).mono ?_
        rintro e w7 ⟨v1, rfl, hp7⟩
        refine ⟨_, rfl, ?_⟩
        obtain ⟨A1, c1, rfl⟩ := Kd.R_slice hp7.1
        have HP7 := Lib.hid hp7
        have q0 := cell_grown hp7.2.1 p0 (Kd.R_ne HD6.out.rl HD6.out.blk (by decide))
        have q1 := cell_grown hp7.2.1 p1 (Kd.R_ne HD6.out.rl HK6.out (by decide))
        have q2 := cell_grown hp7.2.1 p2 (Kd.R_ne HD6.out.rl HK6.out (by decide))
        have q3 := cell_grown hp7.2.1 p3 (Kd.R_ne HD6.out.rl HK6.out (by decide))
        have q4 := cell_grown hp7.2.1 p4 (Kd.R_ne HD6.out.rl HK6.out (by decide))
        have q5 := cell_grown hp7.2.1 p5 (Kd.R_ne HD6.out.rl HK6.out (by decide))
        have q6 := cell_grown hp7.2.1 p6 (Kd.R_ne HD6.out.rl HK6.out (by decide))
        have q7 := cell_grown hp7.2.1 p7 (Kd.R_ne HD6.out.rl HK6.out (by decide))
        have q8 := cell_grown hp7.2.1 p8 (Kd.R_ne HD6.out.rl HK6.out (by decide))
        have q9 := cell_grown hp7.2.1 p9 (Kd.R_ne HD6.out.rl HK6.out (by decide))
        have q10 := cell_grown hp7.2.1 p10 (Kd.R_ne HD6.out.rl HK6.out (by decide))
        have q11 := cell_grown hp7.2.1 p11 (Kd.R_ne HD6.out.rl HK6.out (by decide))
        have z7 : w7.frozen? ⟨b, 0, none⟩ = false := frozen_of ((hp7.2.1.block b HD6.out.lt (Kd.R_ne HD6.out.rl HD6.out.blk (by decide))).trans HD6.out.blk) 0
        have HX7 := Lib.hid ((hp7.2.1.block bx (Array.getElem?_eq_some_iff.1 HX6.out).1 (Kd.R_ne HD6.out.rl HX6.out (by decide))).trans HX6.out)
        have HB7 := Lib.hid (below_grown HB6.out (Nat.le_refl _) hp7.2.1 (fun x hx => by obtain ⟨inner, hown⟩ := Kd.R_own HD6.out.rl; exact own_base hown x hx))
        clear hp7
        refine hK.out _ _ ⟨q0, q1, q2, q3, q4, q5, q6, q7, q8, q9, q10, q11⟩ (fun hHeld => ?_)
        clear hK K
        refine norm_ (a' := ?_) ?_ ?_
        rotate_left
        · show Act.put _ (some 69) _ = _
          simp only [Act.put, List.setIfInBounds_toArray, List.set_cons_zero, List.set_cons_succ, i64_w, i32_w]
          rfl
        refine pure_ (i := 7) (N := some 70) (v := ?_) (a' := ?_) #[true, true, true, true, true, true, true, true, false, false] rfl rfl (by kernel_rfl) (fun _ _ _ h => h) (Or.inl ⟨by rfl, ?_⟩) ?_ ?_
        rotate_left
        · intro w'
          go_simp
          with_reducible rfl
        rotate_left
        · simp only [Act.put, List.setIfInBounds_toArray, List.set_cons_zero, List.set_cons_succ, i64_w, i32_w]
          rfl
        refine pure_ (i := 8) (N := some 71) (v := ?_) (a' := ?_) #[true, true, true, true, true, true, true, true, true, false] rfl rfl (by kernel_rfl) (fun _ _ _ h => h) (Or.inl ⟨by rfl, ?_⟩) ?_ ?_
        rotate_left
        · intro w'
          go_simp
          with_reducible rfl
        rotate_left
        · simp only [Act.put, List.setIfInBounds_toArray, List.set_cons_zero, List.set_cons_succ, i64_w, i32_w]
          rfl
        refine last_ (i := 9) (N := none) #[true, true, true, true, true, true, true, true, true, true] rfl rfl (by kernel_rfl) (by decide) (fun K hK => ?_)
        refine skip_ (w1 := ?_) (by rfl) rfl ?_ ?_
        rotate_left
        · go_simp
          rfl
        refine hK.out _ _ ?_
        clear hK K
        refine done_ (by kernel_rfl) ?_

        have HD8 := Lib.hid (dlasts HD6.out HP7.out)
        have HB8 := Lib.hid (below_grown HB7.out (Nat.le_refl _) (set_grown w7 b 0 (.slice A1 (ls (k + 1)).length c1)) (fun x hx => by injection hx with hx; have := HD6.out.nb; omega))
        have HX8 := Lib.hid (blk_far HX7.out (p := ⟨b, 0, none⟩) (fun e => HBX.out e.symm) (.slice A1 (ls (k + 1)).length c1))
        clear p0 p1 p2 p3 p4 p5 p6 p7 p8 p9 p10 p11 q0 q1 q2 q3 q4 q5 q6 q7 q8 q9 q10 q11 z7
        go_wp2
        go_roundw
        case rel => exact ⟨k + 1, _, by omega, by go_num, by go_num, HD8, HB8, HX8⟩
        case measure => simp [intOf]; omega
    · obtain rfl : k = 2 := by omega
      obtain ⟨Av, cv, rfl, _, hC⟩ := Kd.R_reads HD.out.rl
      obtain ⟨av, rfl, _⟩ := hC.2.2 hl2.1
      have HCL := Lib.hid (fun W' hl => clone_some (ls 2) av cv W' hl hl2.2)
      have HCC := Lib.hid hC
      have p0 := HD.out.c0
      clear hC
      go_wp2_with fail
      rename_i K2 h2 K1 h1 K0 h0
      clear h2
      have H1 := Lib.hid h1
      clear h1
      refine (HCL.out _ HCC.out).mono ?_
      rintro e w7 ⟨v7, rfl, hr7, hb7⟩
      have hp7 : RowPost W0.heap.size wr w7 vs v7 (ls 2) := ⟨Kd.R_lower hr7 HB.out.size, ⟨hb7.os, hb7.tape, hb7.output, hb7.size, fun k hk _ => hb7.block k hk⟩, by
        obtain ⟨inner, hown⟩ := Kd.R_own hr7
        rcases hown.2 with ⟨e, hn⟩ | ⟨g, cap, cur, e, h1, _⟩
        · have := hl2.1
          omega
        · exact .inr ⟨g, by rw [e]; rfl, h1⟩⟩
      obtain ⟨A7, c7, rfl⟩ := Kd.R_slice hr7
      have hd8 := dshows HD.out hp7
      have hd9 := dwaits (v1 := .slice none 0 0) (q1 := []) (W1 := w7.setCell ⟨b, 1, none⟩ (.slice A7 (ls 2).length c7)) hd8 (Kd.R_nil _ _ _ _ _) (World.grownBy.refl _ _)
      have hb7' := HB.out.trans (hb7.mono HB.out.size)
      have hbn := HD.out.nb
      have f1 : w7.frozen? ⟨b, 1, none⟩ = false := frozen_of ((hb7.block b HD.out.lt).trans HD.out.blk) 1
      have f2 : (w7.setCell ⟨b, 1, none⟩ (.slice A7 (ls 2).length c7)).frozen? ⟨b, 2, none⟩ = false := hd8.fz 2
      have g1 : w7.cell? ⟨b, 1, none⟩ = some vs := by
        rw [cell_of ((hb7.block b HD.out.lt).trans HD.out.blk)]; rfl
      have g2 : (w7.setCell ⟨b, 1, none⟩ (.slice A7 (ls 2).length c7)).cell? ⟨b, 2, none⟩ = some (.slice (some aq) 3 cq) := hd8.c2
      have hb9 := below_grown (below_grown hb7' (Nat.le_refl _) (set_grown _ b 1 (.slice A7 (ls 2).length c7)) (fun x hx => by injection hx with hx; omega)) (Nat.le_refl _) (set_grown _ b 2 (.slice none 0 0)) (fun x hx => by injection hx with hx; omega)
      have HD9 := Lib.hid hd9
      have HB9 := Lib.hid hb9
      clear hd8 hd9 hp7 hr7 hb7 hb7' p0 hb9
      go_wp2
      generalize (w7.setCell ⟨b, 1, none⟩ (.slice A7 (ls 2).length c7)).setCell ⟨b, 2, none⟩ (.slice none 0 0) = w9 at *
      have f3 := HD9.out.fz 6
      have g3 := HD9.out.c6
      have g4 : (w9.setCell ⟨b, 6, none⟩ (.bool false)).cell? ⟨b, 4, none⟩ = some (.int .i64 fu) := (HD9.out.put 6 (.bool false) (off' := false) rfl).c4
      have g5 : ((w9.setCell ⟨b, 6, none⟩ (.bool false)).setCell ⟨b, 4, none⟩ (.int .i64 (-1))).cell? ⟨b, 5, none⟩ = some (.int .i64 fa) := ((HD9.out.put 6 (.bool false) (off' := false) rfl).put 4 (.int .i64 (-1)) (fu' := -1) rfl).c5
      have f4 : (w9.setCell ⟨b, 6, none⟩ (.bool false)).frozen? ⟨b, 4, none⟩ = false := (HD9.out.put 6 (.bool false) (off' := false) rfl).fz 4
      have f5 : ((w9.setCell ⟨b, 6, none⟩ (.bool false)).setCell ⟨b, 4, none⟩ (.int .i64 (-1))).frozen? ⟨b, 5, none⟩ = false := ((HD9.out.put 6 (.bool false) (off' := false) rfl).put 4 (.int .i64 (-1)) (fu' := -1) rfl).fz 5
      have HD12 := Lib.hid (((HD9.out.put 6 (.bool false) (off' := false) rfl).put 4 (.int .i64 (-1)) (fu' := -1) rfl).put 5 (.int .i64 0) (fa' := 0) rfl)
      have HB12 := Lib.hid (below_grown (below_grown (below_grown HB9.out (Nat.le_refl _) (set_grown _ b 6 (.bool false)) (fun x hx => by injection hx with hx; omega)) (Nat.le_refl _) (set_grown _ b 4 (.int .i64 (-1))) (fun x hx => by injection hx with hx; omega)) (Nat.le_refl _) (set_grown _ b 5 (.int .i64 0)) (fun x hx => by injection hx with hx; omega))
      clear HD9 HB9 f1 f2 g1 g2
      refine H1.out _ _ ?_
      go_wp2
      go_end0
      exact ⟨rfl, ⟨_, _, _, HD12.out⟩, HB12.out⟩
end Go.Proofs.YtfogfkikkekmkaaDoor.DiskKept
