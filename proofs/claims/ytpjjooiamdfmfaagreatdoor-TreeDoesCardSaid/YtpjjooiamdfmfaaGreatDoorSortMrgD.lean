/- sort: symMerge, the general step. -/
import Derived.Test.YtpjjooiamdfmfaaGreatDoorSortMrgC
set_option linter.unusedVariables false
set_option linter.unusedSimpArgs false
namespace Go.Proofs.YtpjjooiamdfmfaaGreatDoor.SortMrgD
open Go.RowKit Go.Proofs.YtpjjooiamdfmfaaGreatDoorW.PrintWords Go.Proofs.YtpjjooiamdfmfaaGreatDoorW.PrintLast Go.Proofs.YtpjjooiamdfmfaaGreatDoorW.PrintMore Go.Proofs.YtpjjooiamdfmfaaGreatDoor.Item Go.Proofs.YtpjjooiamdfmfaaGreatDoor.Own Go.Proofs.YtpjjooiamdfmfaaGreatDoor.Stab Go.Proofs.YtpjjooiamdfmfaaGreatDoor.SortLaw Go.Proofs.YtpjjooiamdfmfaaGreatDoor.TreeLaw Go.Proofs.YtpjjooiamdfmfaaGreatDoor.NameWalk Go.Proofs.YtpjjooiamdfmfaaGreatDoor.SortSwap Go.Proofs.YtpjjooiamdfmfaaGreatDoor.SortIns Go.Proofs.YtpjjooiamdfmfaaGreatDoor.SortMrgA Go.Proofs.YtpjjooiamdfmfaaGreatDoor.SortMrgB Go.Proofs.YtpjjooiamdfmfaaGreatDoor.SortMrgC

set_option maxHeartbeats 16000000 in
set_option maxRecDepth 100000 in
theorem mergeC (W0 : World) (hgl : Glob W0) (g N c K : Nat) (hN : N ≤ 1000000) (hih : ∀ (p u v q : List It) (W : World) (a m b : Nat), u.length + v.length < K → 0 < u.length → 0 < v.length → a = p.length → m = a + u.length → b = m + v.length → Sorted ltI u → Sorted ltI v → Short u → Short v → Below W0.heap.size W0 W → Row W W0.heap.size g N c (p ++ (u ++ (v ++ q))) → Calls Tryz.prog 145 #[.slice (some ⟨g, 0, none⟩) N c, .int .i64 (a : Nat), .int .i64 (m : Nat), .int .i64 (b : Nat), .func (.func 63) #[] #[]] W (MPost W0 g N c p (u ++ v) q W))
    (p u v q : List It) (W : World) (a m b : Nat) (hK : u.length + v.length ≤ K) (hu : 2 ≤ u.length) (hv : 2 ≤ v.length) (ha : a = p.length) (hm : m = a + u.length) (hb : b = m + v.length) (hsu : Sorted ltI u) (hsv : Sorted ltI v) (hzu : Short u) (hzv : Short v) (hB : Below W0.heap.size W0 W) (h : Row W W0.heap.size g N c (p ++ (u ++ (v ++ q)))) :
    Calls Tryz.prog 145 #[.slice (some ⟨g, 0, none⟩) N c, .int .i64 (a : Nat), .int .i64 (m : Nat), .int .i64 (b : Nat), .func (.func 63) #[] #[]] W (MPost W0 g N c p (u ++ v) q W) := by
  have HIH := Lib.hid hih
  obtain ⟨ad, had⟩ : ∃ ad : Addr, ad = ⟨g, 0, none⟩ := ⟨_, rfl⟩
  rw [← had]
  have HAD := Lib.hid had
  have HGL := Lib.hid hgl
  have HB := Lib.hid hB
  have HNG := Lib.hid h.base
  have HR0 := Lib.hid h
  have HGO := Lib.hid (grown_refl W (some g))
  have hlen := h.1
  simp only [List.length_append] at hlen
  obtain ⟨mid, hmid⟩ : ∃ mid, mid = (a + b) / 2 := ⟨_, rfl⟩
  obtain ⟨n, hn⟩ : ∃ n, n = mid + m := ⟨_, rfl⟩
  obtain ⟨L, hL⟩ : ∃ L, L = p ++ (u ++ (v ++ q)) := ⟨_, rfl⟩
  rw [← hL] at HR0
  have hmidI := h_mid hmid
  have HG := Lib.hid HGO.out
  have HF := Lib.hid (show a = p.length ∧ m = a + u.length ∧ b = m + v.length ∧ mid = (a + b) / 2 ∧ n = mid + m ∧ L = p ++ (u ++ (v ++ q)) ∧ u.length + v.length ≤ K from ⟨ha, hm, hb, hmid, hn, hL, hK⟩)
  have HS := Lib.hid (And.intro hsu (And.intro hsv (And.intro hzu hzv)))
  have hbN : b ≤ N := by omega
  have f1 : a < mid ∧ mid < b ∧ a < m ∧ m < b := by omega
  have f2 : a + 2 ≤ m ∧ m + 2 ≤ b := by omega
  have q0 : ((m : Int) - (a : Int) == 1) = false := beq_eq_false_iff_ne.2 (by omega)
  have q00 : ((b : Int) - (m : Int) == 1) = false := beq_eq_false_iff_ne.2 (by omega)
  have HC := Lib.hid (show n = mid + m ∧ mid = (a + b) / 2 from ⟨hn, hmid⟩)
  have HAT : Hid (∀ k, k < N → ∃ x, L[k]? = some x) := Lib.hid (fun k hk => ⟨_, List.getElem?_eq_getElem (by have := h.1; rw [← hL] at this; omega)⟩)
  have HATS : Hid (∀ k x, a ≤ k → k < b → L[k]? = some x → x.1.size < 4294967281) := Lib.hid (fun k x h1 h2 h3 => by
    rcases Nat.lt_or_ge k m with hk | hk
    · have e := in_left (p := p) (u := u) (q := v ++ q) (k := k - a) (by omega)
      rw [← hL, show p.length + (k - a) = k by omega, h3] at e
      exact hzu x (List.mem_of_getElem? e.symm)
    · have e := in_left (p := p ++ u) (u := v) (q := q) (k := k - m) (by omega)
      rw [List.append_assoc, ← hL, show (p ++ u).length + (k - m) = k by rw [List.length_append]; omega, h3] at e
      exact hzv x (List.mem_of_getElem? e.symm))
  clear had hgl hB h ha hb hm hmid hn hL hsu hsv hzu hzv hlen hih hu hv hK HGO
  go_enter Tryz.func145, Tryz.ntmps145
  go_upto_if 140 with fail
  go_cut [20, 21] (fun v20 v21 wx => (∃ s0 r0 : Nat, v20 = .int .i64 s0 ∧ v21 = .int .i64 r0 ∧ Hid (a ≤ s0 ∧ n ≤ b + s0 ∧ r0 ≤ mid ∧ r0 ≤ m ∧ s0 ≤ r0 ∧ (s0 = a ∨ s0 + b = n) ∧ (r0 = mid ∨ r0 = m))) ∧ W = wx)
  case first =>
    by_cases hmm : mid < m
    · have hmmI : (mid : Int) < (m : Int) := i_lt hmm
      have e1 : (mid : Int) + (m : Int) - (b : Int) = ((mid + m - b : Nat) : Int) := by have := HC.out; omega
      have HE1 := Lib.hid e1
      clear e1
      go_wp2
      go_meet
      case rel => exact ⟨⟨mid + m - b, mid, by rw [← HE1.out], rfl, Lib.hid (by have := HC.out; omega)⟩, rfl⟩
    · have hmmI : ¬ (mid : Int) < (m : Int) := by omega
      go_wp2
      go_meet
      case rel => exact ⟨⟨a, m, rfl, rfl, Lib.hid (by have := HC.out; omega)⟩, rfl⟩
  case rest =>
    obtain ⟨⟨s0, r0, rfl, rfl, HSR⟩, rfl⟩ := hcut
    obtain ⟨F, hF⟩ : ∃ F, F = r0 := ⟨_, rfl⟩
    have hFr : r0 ≤ s0 + F := by omega
    have hsr := HSR.out.2.2.2.2.1
    have hr0 : r0 ≤ m ∧ r0 ≤ mid := ⟨HSR.out.2.2.2.1, HSR.out.2.2.1⟩
    clear hF
    go_wp2
    go_loopg [20, 21, 23] F (fun gg vs vr vc wr => ∃ st r : Nat, vs = .int .i64 st ∧ vr = .int .i64 r ∧ s0 ≤ st ∧ st ≤ r ∧ r ≤ r0 ∧ r ≤ st + gg ∧ Hid ((st = s0 ∨ ∃ x y, L[st - 1]? = some x ∧ L[n - st]? = some y ∧ ltI y x = false) ∧ (r = r0 ∨ ∃ x y, L[r]? = some x ∧ L[n - 1 - r]? = some y ∧ ltI y x = true)) ∧ Hid (Row wr W0.heap.size g N c L) ∧ Hid (W.grownBy wr (some g)))
    case atStart => exact ⟨s0, r0, rfl, rfl, Nat.le_refl _, hsr, Nat.le_refl _, hFr, Lib.hid ⟨.inl rfl, .inl rfl⟩, HR0, HG⟩
    case round =>
      clear HR0 HG hFr
      obtain ⟨st, r, rfl, rfl, hss, hsr1, hrr, hrg, HI, HR, HG⟩ := hrel
      by_cases hlt : st < r
      · have hltI : (st : Int) < (r : Int) := i_lt hlt
        obtain ⟨cc, hcc⟩ : ∃ h, h = (st + r) / 2 := ⟨_, rfl⟩
        have hccI := h_mid hcc
        have hcij := mid_in hcc hlt
        obtain ⟨pc, hpc⟩ : ∃ pc, pc = n - 1 - cc := ⟨_, rfl⟩
        have hsf := HSR.out
        have hcf := HC.out
        have hpcI : (mid : Int) + (m : Int) - 1 - (cc : Int) = (pc : Int) := by omega
        have hpb : a ≤ pc ∧ pc < b ∧ a ≤ cc ∧ cc < b := by omega
        obtain ⟨x, hx⟩ := HAT.out cc (by omega)
        obtain ⟨y, hy⟩ := HAT.out pc (by omega)
        obtain ⟨x0, x1, x2, x3, x4, x5, x6, x7⟩ := x
        obtain ⟨y0, y1, y2, y3, y4, y5, y6, y7⟩ := y
        have HX := Lib.hid hx
        have HY := Lib.hid hy
        have HSX : Hid (x0.size < 4294967281) := Lib.hid (HATS.out cc (x0, x1, x2, x3, x4, x5, x6, x7) hpb.2.2.1 hpb.2.2.2 hx)
        have HSY : Hid (y0.size < 4294967281) := Lib.hid (HATS.out pc (y0, y1, y2, y3, y4, y5, y6, y7) hpb.1 hpb.2.1 hy)
        have HLT : Hid (ltI (y0, y1, y2, y3, y4, y5, y6, y7) (x0, x1, x2, x3, x4, x5, x6, x7) = decide (orderT y0 x0 < 0)) := Lib.hid rfl
        have qc : (cc : Int) < (N : Int) := i_lt (by omega)
        have qp : (pc : Int) < (N : Int) := i_lt (by omega)
        have hpcN : pc ≤ N := by omega
        have HPC := Lib.hid hpc
        clear hcc hpc hsf hcf hpb hx hy
        have wpc := w_le hpcN hN
        obtain ⟨e0, e1, e2, e3, e4, e5, e6, e7⟩ := row_load HR.out HAD.out HY.out
        obtain ⟨f0, f1, f2, f3, f4, f5, f6, f7⟩ := row_load HR.out HAD.out HX.out
        simp only at e0 e1 e2 e3 e4 e5 e6 e7 f0 f1 f2 f3 f4 f5 f6 f7
        go_wp2_with fail
        refine start_ (n := 14) (S := fun w' => w'.cell? (ad.add (pc * 8)) = some (.string y0) ∧ w'.cell? ⟨(ad.add (pc * 8)).block, (ad.add (pc * 8)).off + 1, none⟩ = some (.int .i64 y1) ∧ w'.cell? ⟨(ad.add (pc * 8)).block, (ad.add (pc * 8)).off + 2, none⟩ = some (.int .u32 y2) ∧ w'.cell? ⟨(ad.add (pc * 8)).block, (ad.add (pc * 8)).off + 3, none⟩ = some (.int .u32 y3) ∧ w'.cell? ⟨(ad.add (pc * 8)).block, (ad.add (pc * 8)).off + 4, none⟩ = some (.int .u32 y4) ∧ w'.cell? ⟨(ad.add (pc * 8)).block, (ad.add (pc * 8)).off + 5, none⟩ = some (.int .i64 y5) ∧ w'.cell? ⟨(ad.add (pc * 8)).block, (ad.add (pc * 8)).off + 6, none⟩ = some (.int .i64 y6) ∧ w'.cell? ⟨(ad.add (pc * 8)).block, (ad.add (pc * 8)).off + 7, none⟩ = some (.string y7) ∧ w'.cell? (ad.add (cc * 8)) = some (.string x0) ∧ w'.cell? ⟨(ad.add (cc * 8)).block, (ad.add (cc * 8)).off + 1, none⟩ = some (.int .i64 x1) ∧ w'.cell? ⟨(ad.add (cc * 8)).block, (ad.add (cc * 8)).off + 2, none⟩ = some (.int .u32 x2) ∧ w'.cell? ⟨(ad.add (cc * 8)).block, (ad.add (cc * 8)).off + 3, none⟩ = some (.int .u32 x3) ∧ w'.cell? ⟨(ad.add (cc * 8)).block, (ad.add (cc * 8)).off + 4, none⟩ = some (.int .u32 x4) ∧ w'.cell? ⟨(ad.add (cc * 8)).block, (ad.add (cc * 8)).off + 5, none⟩ = some (.int .i64 x5) ∧ w'.cell? ⟨(ad.add (cc * 8)).block, (ad.add (cc * 8)).off + 6, none⟩ = some (.int .i64 x6) ∧ w'.cell? ⟨(ad.add (cc * 8)).block, (ad.add (cc * 8)).off + 7, none⟩ = some (.string x7)) (ds := [11]) #[false, false, false, false, false, false, false, false, false, false, false, false, false, false] (by kernel_rfl) rfl rfl ⟨e0, e1, e2, e3, e4, e5, e6, e7, f0, f1, f2, f3, f4, f5, f6, f7⟩ (fun hHeld => ?_)
        have HRd := Lib.hid (Row.below HR.out (below_drew (Below.refl wr.heap.size wr)))
        have HGd := Lib.hid (grown_drew HG.out)
        generalize wr.drew = W1 at *
        refine pure_ (i := 0) (N := some 158) (v := ?_) (a' := ?_) #[true, false, false, false, false, false, false, false, false, false, false, false, false, false] rfl rfl (by kernel_rfl) (fun _ _ _ h => h) (Or.inl ⟨by rfl, ?_⟩) ?_ ?_
        rotate_left
        · intro w'
          go_simp
          with_reducible rfl
        rotate_left
        · simp only [Act.put, List.setIfInBounds_toArray, List.set_cons_zero, List.set_cons_succ, i64_w, i32_w]
          rfl
        refine pure_ (i := 1) (N := some 159) (v := ?_) (a' := ?_) #[true, true, false, false, false, false, false, false, false, false, false, false, false, false] rfl rfl (by kernel_rfl) (fun _ _ _ h => h) (Or.inl ⟨by rfl, ?_⟩) ?_ ?_
        rotate_left
        · intro w'
          go_simp
          with_reducible rfl
        rotate_left
        · simp only [Act.put, List.setIfInBounds_toArray, List.set_cons_zero, List.set_cons_succ, i64_w, i32_w]
          rfl
        refine pure_ (i := 2) (N := some 160) (v := ?_) (a' := ?_) #[true, true, true, false, false, false, false, false, false, false, false, false, false, false] rfl rfl (by kernel_rfl) (fun _ _ _ h => h) (Or.inl ⟨by rfl, ?_⟩) ?_ ?_
        rotate_left
        · intro w'
          go_simp
          with_reducible rfl
        rotate_left
        · simp only [Act.put, List.setIfInBounds_toArray, List.set_cons_zero, List.set_cons_succ, i64_w, i32_w]
          rfl
        refine pure_ (i := 3) (N := some 161) (v := ?_) (a' := ?_) #[true, true, true, true, false, false, false, false, false, false, false, false, false, false] rfl rfl (by kernel_rfl) (fun _ _ _ h => h) (Or.inl ⟨by rfl, ?_⟩) ?_ ?_
        rotate_left
        · intro w'
          go_simp
          with_reducible rfl
        rotate_left
        · simp only [Act.put, List.setIfInBounds_toArray, List.set_cons_zero, List.set_cons_succ, i64_w, i32_w]
          rfl
        refine pure_ (i := 4) (N := some 162) (v := ?_) (a' := ?_) #[true, true, true, true, true, false, false, false, false, false, false, false, false, false] rfl rfl (by kernel_rfl) (fun _ _ _ h => h) (Or.inl ⟨by rfl, ?_⟩) ?_ ?_
        rotate_left
        · intro w'
          go_simp
          with_reducible rfl
        rotate_left
        · simp only [Act.put, List.setIfInBounds_toArray, List.set_cons_zero, List.set_cons_succ, i64_w, i32_w]
          rfl
        refine pure_ (i := 5) (N := some 163) (v := ?_) (a' := ?_) #[true, true, true, true, true, true, false, false, false, false, false, false, false, false] rfl rfl (by kernel_rfl) (fun _ _ _ h => h) (Or.inl ⟨by rfl, ?_⟩) ?_ ?_
        rotate_left
        · intro w'
          go_simp
          with_reducible rfl
        rotate_left
        · simp only [Act.put, List.setIfInBounds_toArray, List.set_cons_zero, List.set_cons_succ, i64_w, i32_w]
          rfl
        refine pure_ (i := 7) (N := some 165) (v := ?_) (a' := ?_) #[true, true, true, true, true, true, false, true, false, false, false, false, false, false] rfl rfl (by kernel_rfl) (fun _ _ _ h => h) (Or.inl ⟨by rfl, ?_⟩) ?_ ?_
        rotate_left
        · intro w'
          go_simp
          with_reducible rfl
        rotate_left
        · simp only [Act.put, List.setIfInBounds_toArray, List.set_cons_zero, List.set_cons_succ, i64_w, i32_w]
          rfl
        refine pure_ (i := 8) (N := some 166) (v := ?_) (a' := ?_) #[true, true, true, true, true, true, false, true, true, false, false, false, false, false] rfl rfl (by kernel_rfl) (fun _ _ _ h => h) (Or.inl ⟨by rfl, ?_⟩) ?_ ?_
        rotate_left
        · intro w'
          go_simp
          with_reducible rfl
        rotate_left
        · simp only [Act.put, List.setIfInBounds_toArray, List.set_cons_zero, List.set_cons_succ, i64_w, i32_w]
          rfl
        refine pure_ (i := 9) (N := some 167) (v := ?_) (a' := ?_) #[true, true, true, true, true, true, false, true, true, true, false, false, false, false] rfl rfl (by kernel_rfl) (fun _ _ _ h => h) (Or.inl ⟨by rfl, ?_⟩) ?_ ?_
        rotate_left
        · intro w'
          go_simp
          with_reducible rfl
        rotate_left
        · simp only [Act.put, List.setIfInBounds_toArray, List.set_cons_zero, List.set_cons_succ, i64_w, i32_w]
          rfl
        refine take_ (i := 6) (N := some 164) (v := ?_) (a' := ?_) #[true, true, true, true, true, true, true, true, true, true, false, false, false, false] rfl rfl (by kernel_rfl) (fun _ _ _ h => h) (Or.inl ⟨by rfl, ?_⟩) hHeld ?_ ?_
        rotate_left
        · rintro w' ⟨s0, s1, s2, s3, s4, s5, s6, s7, s8, s9, s10, s11, s12, s13, s14, s15⟩
          go_simp
          with_reducible rfl
        rotate_left
        · simp only [Act.put, List.setIfInBounds_toArray, List.set_cons_zero, List.set_cons_succ, i64_w, i32_w]
          rfl
        refine take_ (i := 10) (N := some 168) (v := ?_) (a' := ?_) #[true, true, true, true, true, true, true, true, true, true, true, false, false, false] rfl rfl (by kernel_rfl) (fun _ _ _ h => h) (Or.inl ⟨by rfl, ?_⟩) hHeld ?_ ?_
        rotate_left
        · rintro w' ⟨s0, s1, s2, s3, s4, s5, s6, s7, s8, s9, s10, s11, s12, s13, s14, s15⟩
          go_simp
          with_reducible rfl
        rotate_left
        · simp only [Act.put, List.setIfInBounds_toArray, List.set_cons_zero, List.set_cons_succ, i64_w, i32_w]
          rfl
        refine last_ (i := 11) (N := some 169) #[true, true, true, true, true, true, true, true, true, true, true, true, false, false] rfl rfl (by kernel_rfl) (by decide) (fun K hK => ?_)
        refine goesC_ (x := 158) (fn := Tryz.f63) (f := 63) Tryz.func63 (by kernel_rfl) rfl #[.agg #[.string y0, .int .i64 y1, .int .u32 y2, .int .u32 y3, .int .u32 y4, .int .i64 y5, .int .i64 y6, .string y7], .agg #[.string x0, .int .i64 x1, .int .u32 x2, .int .u32 x3, .int .u32 x4, .int .i64 x5, .int .i64 x6, .string x7]] (by rfl) rfl rfl rfl (by simp only [List.map_toArray, List.map_cons, List.map_nil]; rfl) ?_
        with_reducible refine (cmp_any y0 y1 y2 y3 y4 y5 y6 y7 x0 x1 x2 x3 x4 x5 x6 x7 W1 (HGL.out.below (below_row HB.out HGd.out HNG.out)) HSY.out HSX.out).mono ?_
        rintro e W4 ⟨rfl, hbc⟩
        have HRc := Lib.hid (HRd.out.below hbc)
        have HGc := Lib.hid (grown_below HGd.out hbc)
        clear hbc
        refine ⟨_, rfl, ?_⟩
        generalize orderT y0 x0 = rr at *
        refine hK.out _ _ ?_
        clear hK K
        refine norm_ (a' := ?_) ?_ ?_
        rotate_left
        · show Act.put _ (some 169) _ = _
          simp only [Act.put, List.setIfInBounds_toArray, List.set_cons_zero, List.set_cons_succ, i64_w, i32_w]
          rfl
        refine pure_ (i := 12) (N := some 170) (v := ?_) (a' := ?_) #[true, true, true, true, true, true, true, true, true, true, true, true, true, false] rfl rfl (by kernel_rfl) (fun _ _ _ h => h) (Or.inl ⟨by rfl, ?_⟩) ?_ ?_
        rotate_left
        · intro w'
          go_simp
          with_reducible rfl
        rotate_left
        · simp only [Act.put, List.setIfInBounds_toArray, List.set_cons_zero, List.set_cons_succ, i64_w, i32_w]
          rfl
        refine pure_ (i := 13) (N := some 171) (v := ?_) (a' := ?_) #[true, true, true, true, true, true, true, true, true, true, true, true, true, true] rfl rfl (by kernel_rfl) (fun _ _ _ h => h) (Or.inl ⟨by rfl, ?_⟩) ?_ ?_
        rotate_left
        · intro w'
          go_simp
          with_reducible rfl
        rotate_left
        · simp only [Act.put, List.setIfInBounds_toArray, List.set_cons_zero, List.set_cons_succ, i64_w, i32_w]
          rfl
        refine done_ (by kernel_rfl) ?_
        clear e0 e1 e2 e3 e4 e5 e6 e7 f0 f1 f2 f3 f4 f5 f6 f7
        clear HR HRd HG HGd wpc
        obtain ⟨bb, hbb⟩ : ∃ bb, bb = decide (rr < 0) := ⟨_, rfl⟩
        rw [← hbb] at HLT ⊢
        clear hbb
        cases bb with
        | true =>
          have HI2 : Hid ((st = s0 ∨ ∃ x y, L[st - 1]? = some x ∧ L[n - st]? = some y ∧ ltI y x = false) ∧ (cc = r0 ∨ ∃ x y, L[cc]? = some x ∧ L[n - 1 - cc]? = some y ∧ ltI y x = true)) := Lib.hid ⟨HI.out.1, .inr ⟨(x0, x1, x2, x3, x4, x5, x6, x7), (y0, y1, y2, y3, y4, y5, y6, y7), HX.out, by rw [← HPC.out]; exact HY.out, HLT.out⟩⟩
          clear HI HX HY HSX HSY HLT
          go_wp2
          go_roundg (gk - 1)
          case measure => omega
          case rel => exact ⟨st, cc, rfl, rfl, hss, by omega, by omega, by omega, HI2, HRc, HGc⟩
        | false =>
          have HI2 : Hid ((cc + 1 = s0 ∨ ∃ x y, L[cc + 1 - 1]? = some x ∧ L[n - (cc + 1)]? = some y ∧ ltI y x = false) ∧ (r = r0 ∨ ∃ x y, L[r]? = some x ∧ L[n - 1 - r]? = some y ∧ ltI y x = true)) := Lib.hid ⟨.inr ⟨(x0, x1, x2, x3, x4, x5, x6, x7), (y0, y1, y2, y3, y4, y5, y6, y7), HX.out, by rw [show n - (cc + 1) = n - 1 - cc by omega, ← HPC.out]; exact HY.out, HLT.out⟩, HI.out.2⟩
          clear HI HX HY HSX HSY HLT
          go_wp2
          go_roundg (gk - 1)
          case measure => omega
          case rel => exact ⟨cc + 1, r, by go_num, rfl, by omega, by omega, hrr, by omega, HI2, HRc, HGc⟩
      · have hltI : ¬ (st : Int) < (r : Int) := by omega
        have hre : st = r := by omega
        subst hre
        obtain ⟨en, hen⟩ : ∃ en, en = n - st := ⟨_, rfl⟩
        have hsf := HSR.out
        have hcf := HC.out
        have hff := HF.out
        have HEN := Lib.hid (show (mid : Int) + (m : Int) - (st : Int) = (en : Int) by omega)
        have hcut := cutC hff.2.2.2.2.2.1 hff.1 hff.2.1 hff.2.2.1 hff.2.2.2.2.1 hsf.1 hsf.2.1 hsf.2.2.1 hsf.2.2.2.1 hss hrr hsf.2.2.2.2.2.1 hsf.2.2.2.2.2.2 HI.out.1 HI.out.2
        obtain ⟨ua, hua⟩ : ∃ ua, ua = u.take (st - a) := ⟨_, rfl⟩
        obtain ⟨ub, hub⟩ : ∃ ub, ub = u.drop (st - a) := ⟨_, rfl⟩
        obtain ⟨va, hva⟩ : ∃ va, va = v.take (n - st - m) := ⟨_, rfl⟩
        obtain ⟨vb, hvb⟩ : ∃ vb, vb = v.drop (n - st - m) := ⟨_, rfl⟩
        have eu : u = ua ++ ub := by rw [hua, hub, List.take_append_drop]
        have ev : v = va ++ vb := by rw [hva, hvb, List.take_append_drop]
        rw [← hua, ← hub, ← hva, ← hvb] at hcut
        have HCU := Lib.hid hcut
        have HLEN := Lib.hid (show ua.length = st - a ∧ ub.length = m - st ∧ va.length = en - m ∧ vb.length = b - en by
          rw [hua, hub, hva, hvb, List.length_take, List.length_take, List.length_drop, List.length_drop]; omega)
        have HST := Lib.hid (show a ≤ st ∧ st ≤ m ∧ st ≤ mid ∧ m ≤ en ∧ en ≤ b ∧ en + st = mid + m by omega)
        have hst2 := HST.out
        have HSO : Hid (Sorted ltI (ua ++ ub) ∧ Sorted ltI (va ++ vb) ∧ Short (ua ++ ub) ∧ Short (va ++ vb)) := Lib.hid (by rw [← eu, ← ev]; exact HS.out)
        have HPU := Lib.hid (show a = p.length ∧ (ua ++ ub).length + (va ++ vb).length ≤ K by rw [← eu, ← ev]; exact ⟨hff.1, hff.2.2.2.2.2.2⟩)
        have HR1 : Hid (Row wr W0.heap.size g N c (p ++ (ua ++ (ub ++ (va ++ (vb ++ q)))))) := Lib.hid (by
          have h := HR.out
          rw [hff.2.2.2.2.2.1, eu, ev] at h
          simpa using h)
        have HUV := Lib.hid (show u ++ v = ua ++ ub ++ (va ++ vb) by rw [← eu, ← ev])
        clear hsf hcf hff hcut hua hub hva hvb eu ev HI HR hen HF HS HAT HATS HSR HC
        go_upto_region 38 with fail
        go_cut [24] (fun vt wx => vt = .int .i64 en ∧ wr = wx)
        case first =>
          go_wp2
          go_meet
          case rel => exact ⟨by rw [HEN.out], rfl⟩
        case rest =>
          obtain ⟨rfl, rfl⟩ := hcut
          go_step
          exact tailC HIH hN HB HNG HAD hst2 ⟨f1.1, f1.2.1⟩ hbN HLEN HSO HPU HCU HUV HR1 HG
end Go.Proofs.YtpjjooiamdfmfaaGreatDoor.SortMrgD
