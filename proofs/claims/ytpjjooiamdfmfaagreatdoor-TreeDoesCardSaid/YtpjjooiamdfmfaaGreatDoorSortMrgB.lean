/- sort: symMerge, where one stands behind. -/
import Derived.Test.YtpjjooiamdfmfaaGreatDoorSortMrgA
set_option linter.unusedVariables false
set_option linter.unusedSimpArgs false
namespace Go.Proofs.YtpjjooiamdfmfaaGreatDoor.SortMrgB
open Go.RowKit Go.Proofs.YtpjjooiamdfmfaaGreatDoorW.PrintWords Go.Proofs.YtpjjooiamdfmfaaGreatDoorW.PrintLast Go.Proofs.YtpjjooiamdfmfaaGreatDoorW.PrintMore Go.Proofs.YtpjjooiamdfmfaaGreatDoor.Item Go.Proofs.YtpjjooiamdfmfaaGreatDoor.Own Go.Proofs.YtpjjooiamdfmfaaGreatDoor.Stab Go.Proofs.YtpjjooiamdfmfaaGreatDoor.SortLaw Go.Proofs.YtpjjooiamdfmfaaGreatDoor.TreeLaw Go.Proofs.YtpjjooiamdfmfaaGreatDoor.NameWalk Go.Proofs.YtpjjooiamdfmfaaGreatDoor.SortSwap Go.Proofs.YtpjjooiamdfmfaaGreatDoor.SortIns Go.Proofs.YtpjjooiamdfmfaaGreatDoor.SortMrgA

set_option maxHeartbeats 8000000 in
set_option maxRecDepth 100000 in
theorem mergeB (W0 : World) (hgl : Glob W0) (g N c a m b : Nat) (p u q : List It) (y0 : ByteArray) (y1 y2 y3 y4 y5 y6 : Int) (y7 : ByteArray) (W : World) (hN : N ≤ 1000000) (ha : a = p.length) (hm : m = a + u.length) (hb : b = m + 1) (hu : 2 ≤ u.length) (hs : Sorted ltI u) (hy : y0.size < 4294967281) (hsz : Short u) (hB : Below W0.heap.size W0 W) (h : Row W W0.heap.size g N c (p ++ (u ++ (y0, y1, y2, y3, y4, y5, y6, y7) :: q))) :
    Calls Tryz.prog 145 #[.slice (some ⟨g, 0, none⟩) N c, .int .i64 a, .int .i64 m, .int .i64 b, .func (.func 63) #[] #[]] W fun e w' => e = .returned (.tuple #[]) ∧ (∃ s, Row w' W0.heap.size g N c (p ++ (s ++ q)) ∧ Stb ltI (u ++ [(y0, y1, y2, y3, y4, y5, y6, y7)]) s) ∧ W.grownBy w' (some g) := by
  obtain ⟨ad, had⟩ : ∃ ad : Addr, ad = ⟨g, 0, none⟩ := ⟨_, rfl⟩
  rw [← had]
  have HAD := Lib.hid had
  have HGL := Lib.hid hgl
  have HB := Lib.hid hB
  have HNG := Lib.hid h.base
  have HR0 := Lib.hid h
  have HGO := Lib.hid (grown_refl W (some g))
  have hlen := h.1
  simp only [List.length_append, List.length_cons] at hlen
  have HSY := Lib.hid hy
  have HSZ := Lib.hid hsz
  have HS := Lib.hid hs
  have HA := Lib.hid ha
  have hbN : b ≤ N := by omega
  obtain ⟨L, hL⟩ : ∃ L, L = p ++ (u ++ (y0, y1, y2, y3, y4, y5, y6, y7) :: q) := ⟨_, rfl⟩
  rw [← hL] at HR0
  have HL := Lib.hid hL
  have HLY : Hid (L[m]? = some (y0, y1, y2, y3, y4, y5, y6, y7)) := Lib.hid (at_mid' (p := p ++ u) (q := q) (by rw [hL]; simp) (by rw [List.length_append]; omega))
  have HAT : Hid (∀ k, k < u.length → L[a + k]? = u[k]?) := Lib.hid (fun k hk => by rw [hL, ha]; exact in_left hk)
  have hmN : m < N := by omega
  have HMB := Lib.hid (show a ≤ m ∧ m - a = u.length ∧ b = m + 1 by omega)
  have ham : a ≤ m := by omega
  have q0 : ((m : Int) - (a : Int) == 1) = false := beq_eq_false_iff_ne.2 (by omega)
  have q00 : ((b : Int) - (m : Int) == 1) = true := beq_iff_eq.2 (by omega)
  have qm : (m : Int) < (N : Int) := i_lt hmN
  obtain ⟨F, hF⟩ : ∃ F, F = m := ⟨_, rfl⟩
  have hFb : m ≤ a + F := by omega
  clear had hgl hB h hsz ha hb hs hy hlen hF hL hm hu
  go_enter Tryz.func145, Tryz.ntmps145
  go_wp2
  go_loopg [14, 15, 16] F (fun gg vi vj vh wr => ∃ i j : Nat, vi = .int .i64 i ∧ vj = .int .i64 j ∧ a ≤ i ∧ i ≤ j ∧ j ≤ m ∧ j ≤ i + gg ∧ Hid ((i = a ∨ ∃ x, u[i - a - 1]? = some x ∧ ltI (y0, y1, y2, y3, y4, y5, y6, y7) x = false) ∧ (j = m ∨ ∃ x, u[j - a]? = some x ∧ ltI (y0, y1, y2, y3, y4, y5, y6, y7) x = true)) ∧ Hid (Row wr W0.heap.size g N c L) ∧ Hid (W.grownBy wr (some g)))
  case atStart => exact ⟨a, m, rfl, rfl, Nat.le_refl _, ham, Nat.le_refl _, hFb, Lib.hid ⟨.inl rfl, .inl rfl⟩, HR0, HGO⟩
  case round =>
    clear HR0 HGO hFb
    obtain ⟨i, j, rfl, rfl, hai, hij, hjm, hjg, HI, HR, HG⟩ := hrel
    by_cases hlt : i < j
    · have hltI : (i : Int) < (j : Int) := i_lt hlt
      obtain ⟨hh, hh2⟩ : ∃ h, h = (i + j) / 2 := ⟨_, rfl⟩
      have hhI := h_mid hh2
      have hhij := mid_in hh2 hlt
      have hhv : hh - a < u.length := by have := HMB.out; omega
      obtain ⟨x, hx⟩ : ∃ x, u[hh - a]? = some x := ⟨_, List.getElem?_eq_getElem hhv⟩
      have hLx : L[hh]? = some x := by have := HAT.out (hh - a) hhv; rw [show a + (hh - a) = hh by omega] at this; rw [this, hx]
      obtain ⟨x0, x1, x2, x3, x4, x5, x6, x7⟩ := x
      have HX := Lib.hid hLx
      have HXV := Lib.hid hx
      have HSX : Hid (x0.size < 4294967281) := Lib.hid (HSZ.out (x0, x1, x2, x3, x4, x5, x6, x7) (List.mem_of_getElem? hx))
      have HLT : Hid (ltI (y0, y1, y2, y3, y4, y5, y6, y7) (x0, x1, x2, x3, x4, x5, x6, x7) = decide (orderT y0 x0 < 0)) := Lib.hid rfl
      have qh : (hh : Int) < (N : Int) := i_lt (by omega)
      clear hh2 hhv hx hLx
      obtain ⟨e0, e1, e2, e3, e4, e5, e6, e7⟩ := row_load HR.out HAD.out HLY.out
      obtain ⟨f0, f1, f2, f3, f4, f5, f6, f7⟩ := row_load HR.out HAD.out HX.out
      simp only at e0 e1 e2 e3 e4 e5 e6 e7 f0 f1 f2 f3 f4 f5 f6 f7
      go_wp2_with fail
      refine start_ (n := 12) (S := fun w' => w'.cell? (ad.add (m * 8)) = some (.string y0) ∧ w'.cell? ⟨(ad.add (m * 8)).block, (ad.add (m * 8)).off + 1, none⟩ = some (.int .i64 y1) ∧ w'.cell? ⟨(ad.add (m * 8)).block, (ad.add (m * 8)).off + 2, none⟩ = some (.int .u32 y2) ∧ w'.cell? ⟨(ad.add (m * 8)).block, (ad.add (m * 8)).off + 3, none⟩ = some (.int .u32 y3) ∧ w'.cell? ⟨(ad.add (m * 8)).block, (ad.add (m * 8)).off + 4, none⟩ = some (.int .u32 y4) ∧ w'.cell? ⟨(ad.add (m * 8)).block, (ad.add (m * 8)).off + 5, none⟩ = some (.int .i64 y5) ∧ w'.cell? ⟨(ad.add (m * 8)).block, (ad.add (m * 8)).off + 6, none⟩ = some (.int .i64 y6) ∧ w'.cell? ⟨(ad.add (m * 8)).block, (ad.add (m * 8)).off + 7, none⟩ = some (.string y7) ∧ w'.cell? (ad.add (hh * 8)) = some (.string x0) ∧ w'.cell? ⟨(ad.add (hh * 8)).block, (ad.add (hh * 8)).off + 1, none⟩ = some (.int .i64 x1) ∧ w'.cell? ⟨(ad.add (hh * 8)).block, (ad.add (hh * 8)).off + 2, none⟩ = some (.int .u32 x2) ∧ w'.cell? ⟨(ad.add (hh * 8)).block, (ad.add (hh * 8)).off + 3, none⟩ = some (.int .u32 x3) ∧ w'.cell? ⟨(ad.add (hh * 8)).block, (ad.add (hh * 8)).off + 4, none⟩ = some (.int .u32 x4) ∧ w'.cell? ⟨(ad.add (hh * 8)).block, (ad.add (hh * 8)).off + 5, none⟩ = some (.int .i64 x5) ∧ w'.cell? ⟨(ad.add (hh * 8)).block, (ad.add (hh * 8)).off + 6, none⟩ = some (.int .i64 x6) ∧ w'.cell? ⟨(ad.add (hh * 8)).block, (ad.add (hh * 8)).off + 7, none⟩ = some (.string x7)) (ds := [9]) #[false, false, false, false, false, false, false, false, false, false, false, false] (by kernel_rfl) rfl rfl ⟨e0, e1, e2, e3, e4, e5, e6, e7, f0, f1, f2, f3, f4, f5, f6, f7⟩ (fun hHeld => ?_)
      have HRd := Lib.hid (Row.below HR.out (below_drew (Below.refl wr.heap.size wr)))
      have HGd := Lib.hid (grown_drew HG.out)
      generalize wr.drew = W1 at *
      refine pure_ (i := 0) (N := some 92) (v := ?_) (a' := ?_) #[true, false, false, false, false, false, false, false, false, false, false, false] rfl rfl (by kernel_rfl) (fun _ _ _ h => h) (Or.inl ⟨by rfl, ?_⟩) ?_ ?_
      rotate_left
      · intro w'
        go_simp
        with_reducible rfl
      rotate_left
      · simp only [Act.put, List.setIfInBounds_toArray, List.set_cons_zero, List.set_cons_succ, i64_w, i32_w]
        rfl
      refine pure_ (i := 1) (N := some 93) (v := ?_) (a' := ?_) #[true, true, false, false, false, false, false, false, false, false, false, false] rfl rfl (by kernel_rfl) (fun _ _ _ h => h) (Or.inl ⟨by rfl, ?_⟩) ?_ ?_
      rotate_left
      · intro w'
        go_simp
        with_reducible rfl
      rotate_left
      · simp only [Act.put, List.setIfInBounds_toArray, List.set_cons_zero, List.set_cons_succ, i64_w, i32_w]
        rfl
      refine pure_ (i := 2) (N := some 94) (v := ?_) (a' := ?_) #[true, true, true, false, false, false, false, false, false, false, false, false] rfl rfl (by kernel_rfl) (fun _ _ _ h => h) (Or.inl ⟨by rfl, ?_⟩) ?_ ?_
      rotate_left
      · intro w'
        go_simp
        with_reducible rfl
      rotate_left
      · simp only [Act.put, List.setIfInBounds_toArray, List.set_cons_zero, List.set_cons_succ, i64_w, i32_w]
        rfl
      refine pure_ (i := 3) (N := some 95) (v := ?_) (a' := ?_) #[true, true, true, true, false, false, false, false, false, false, false, false] rfl rfl (by kernel_rfl) (fun _ _ _ h => h) (Or.inl ⟨by rfl, ?_⟩) ?_ ?_
      rotate_left
      · intro w'
        go_simp
        with_reducible rfl
      rotate_left
      · simp only [Act.put, List.setIfInBounds_toArray, List.set_cons_zero, List.set_cons_succ, i64_w, i32_w]
        rfl
      refine pure_ (i := 5) (N := some 97) (v := ?_) (a' := ?_) #[true, true, true, true, false, true, false, false, false, false, false, false] rfl rfl (by kernel_rfl) (fun _ _ _ h => h) (Or.inl ⟨by rfl, ?_⟩) ?_ ?_
      rotate_left
      · intro w'
        go_simp
        with_reducible rfl
      rotate_left
      · simp only [Act.put, List.setIfInBounds_toArray, List.set_cons_zero, List.set_cons_succ, i64_w, i32_w]
        rfl
      refine pure_ (i := 6) (N := some 98) (v := ?_) (a' := ?_) #[true, true, true, true, false, true, true, false, false, false, false, false] rfl rfl (by kernel_rfl) (fun _ _ _ h => h) (Or.inl ⟨by rfl, ?_⟩) ?_ ?_
      rotate_left
      · intro w'
        go_simp
        with_reducible rfl
      rotate_left
      · simp only [Act.put, List.setIfInBounds_toArray, List.set_cons_zero, List.set_cons_succ, i64_w, i32_w]
        rfl
      refine pure_ (i := 7) (N := some 99) (v := ?_) (a' := ?_) #[true, true, true, true, false, true, true, true, false, false, false, false] rfl rfl (by kernel_rfl) (fun _ _ _ h => h) (Or.inl ⟨by rfl, ?_⟩) ?_ ?_
      rotate_left
      · intro w'
        go_simp
        with_reducible rfl
      rotate_left
      · simp only [Act.put, List.setIfInBounds_toArray, List.set_cons_zero, List.set_cons_succ, i64_w, i32_w]
        rfl
      refine take_ (i := 4) (N := some 96) (v := ?_) (a' := ?_) #[true, true, true, true, true, true, true, true, false, false, false, false] rfl rfl (by kernel_rfl) (fun _ _ _ h => h) (Or.inl ⟨by rfl, ?_⟩) hHeld ?_ ?_
      rotate_left
      · rintro w' ⟨s0, s1, s2, s3, s4, s5, s6, s7, s8, s9, s10, s11, s12, s13, s14, s15⟩
        go_simp
        with_reducible rfl
      rotate_left
      · simp only [Act.put, List.setIfInBounds_toArray, List.set_cons_zero, List.set_cons_succ, i64_w, i32_w]
        rfl
      refine take_ (i := 8) (N := some 100) (v := ?_) (a' := ?_) #[true, true, true, true, true, true, true, true, true, false, false, false] rfl rfl (by kernel_rfl) (fun _ _ _ h => h) (Or.inl ⟨by rfl, ?_⟩) hHeld ?_ ?_
      rotate_left
      · rintro w' ⟨s0, s1, s2, s3, s4, s5, s6, s7, s8, s9, s10, s11, s12, s13, s14, s15⟩
        go_simp
        with_reducible rfl
      rotate_left
      · simp only [Act.put, List.setIfInBounds_toArray, List.set_cons_zero, List.set_cons_succ, i64_w, i32_w]
        rfl
      refine last_ (i := 9) (N := some 101) #[true, true, true, true, true, true, true, true, true, true, false, false] rfl rfl (by kernel_rfl) (by decide) (fun K hK => ?_)
      refine goesC_ (x := 92) (fn := Tryz.f63) (f := 63) Tryz.func63 (by kernel_rfl) rfl #[.agg #[.string y0, .int .i64 y1, .int .u32 y2, .int .u32 y3, .int .u32 y4, .int .i64 y5, .int .i64 y6, .string y7], .agg #[.string x0, .int .i64 x1, .int .u32 x2, .int .u32 x3, .int .u32 x4, .int .i64 x5, .int .i64 x6, .string x7]] (by rfl) rfl rfl rfl (by simp only [List.map_toArray, List.map_cons, List.map_nil]; rfl) ?_
      with_reducible refine (cmp_any y0 y1 y2 y3 y4 y5 y6 y7 x0 x1 x2 x3 x4 x5 x6 x7 W1 (HGL.out.below (below_row HB.out HGd.out HNG.out)) HSY.out HSX.out).mono ?_
      rintro e W4 ⟨rfl, hbc⟩
      have HRc := Lib.hid (HRd.out.below hbc)
      have HGc := Lib.hid (grown_below HGd.out hbc)
      clear hbc
      refine ⟨_, rfl, ?_⟩
      generalize orderT y0 x0 = rr at *
      refine hK.out _ _ ?_
      clear hK K
      refine norm_ (a' := ?_) ?_ ?_
      rotate_left
      · show Act.put _ (some 101) _ = _
        simp only [Act.put, List.setIfInBounds_toArray, List.set_cons_zero, List.set_cons_succ, i64_w, i32_w]
        rfl
      refine pure_ (i := 10) (N := some 102) (v := ?_) (a' := ?_) #[true, true, true, true, true, true, true, true, true, true, true, false] rfl rfl (by kernel_rfl) (fun _ _ _ h => h) (Or.inl ⟨by rfl, ?_⟩) ?_ ?_
      rotate_left
      · intro w'
        go_simp
        with_reducible rfl
      rotate_left
      · simp only [Act.put, List.setIfInBounds_toArray, List.set_cons_zero, List.set_cons_succ, i64_w, i32_w]
        rfl
      refine pure_ (i := 11) (N := some 103) (v := ?_) (a' := ?_) #[true, true, true, true, true, true, true, true, true, true, true, true] rfl rfl (by kernel_rfl) (fun _ _ _ h => h) (Or.inl ⟨by rfl, ?_⟩) ?_ ?_
      rotate_left
      · intro w'
        go_simp
        with_reducible rfl
      rotate_left
      · simp only [Act.put, List.setIfInBounds_toArray, List.set_cons_zero, List.set_cons_succ, i64_w, i32_w]
        rfl
      refine done_ (by kernel_rfl) ?_
      clear e0 e1 e2 e3 e4 e5 e6 e7 f0 f1 f2 f3 f4 f5 f6 f7
      clear HR HRd HG HGd
      obtain ⟨bb, hbb⟩ : ∃ bb, bb = decide (rr < 0) := ⟨_, rfl⟩
      rw [← hbb] at HLT ⊢
      clear hbb
      cases bb with
      | true =>
        have HI2 : Hid ((i = a ∨ ∃ x, u[i - a - 1]? = some x ∧ ltI (y0, y1, y2, y3, y4, y5, y6, y7) x = false) ∧ (hh = m ∨ ∃ x, u[hh - a]? = some x ∧ ltI (y0, y1, y2, y3, y4, y5, y6, y7) x = true)) := Lib.hid ⟨HI.out.1, .inr ⟨(x0, x1, x2, x3, x4, x5, x6, x7), HXV.out, HLT.out⟩⟩
        clear HI HX HXV HSX HLT
        go_wp2
        go_roundg (gk - 1)
        case measure => omega
        case rel => exact ⟨i, hh, rfl, rfl, hai, by omega, by omega, by omega, HI2, HRc, HGc⟩
      | false =>
        have HI2 : Hid ((hh + 1 = a ∨ ∃ x, u[hh + 1 - a - 1]? = some x ∧ ltI (y0, y1, y2, y3, y4, y5, y6, y7) x = false) ∧ (j = m ∨ ∃ x, u[j - a]? = some x ∧ ltI (y0, y1, y2, y3, y4, y5, y6, y7) x = true)) := Lib.hid ⟨.inr ⟨(x0, x1, x2, x3, x4, x5, x6, x7), by rw [show hh + 1 - a - 1 = hh - a by omega]; exact HXV.out, HLT.out⟩, HI.out.2⟩
        clear HI HX HXV HSX HLT
        go_wp2
        go_roundg (gk - 1)
        case measure => omega
        case rel => exact ⟨hh + 1, j, by go_num, rfl, by omega, by omega, hjm, by omega, HI2, HRc, HGc⟩
    · have hltI : ¬ (i : Int) < (j : Int) := by omega
      have hji : i = j := by omega
      subst hji
      obtain ⟨n1, hn1⟩ : ∃ n1, n1 = i - a := ⟨_, rfl⟩
      have hnu : n1 ≤ u.length := by have := HMB.out; omega
      have HST : Hid (Stb ltI (u ++ [(y0, y1, y2, y3, y4, y5, y6, y7)]) (u.take n1 ++ (y0, y1, y2, y3, y4, y5, y6, y7) :: u.drop n1)) := Lib.hid (by
        have hi := HI.out
        have hmb2 := HMB.out
        refine cutB HS.out hnu ?_ ?_
        · rcases hi.1 with e | e
          · exact .inl (by omega)
          · exact .inr (by rw [hn1]; exact e)
        · rcases hi.2 with e | e
          · exact .inl (by omega)
          · exact .inr (by rw [hn1]; exact e))
      obtain ⟨n2, hn2⟩ : ∃ n2, n2 = u.length - n1 := ⟨_, rfl⟩
      have hn2l : (u.drop n1).length = n2 := by rw [List.length_drop, hn2]
      have HRS : Hid (Row wr W0.heap.size g N c (p ++ (u.take n1 ++ ((u.drop n1).take n2 ++ (y0, y1, y2, y3, y4, y5, y6, y7) :: ((u.drop n1).drop n2 ++ q))))) := Lib.hid (by
        have h := HR.out
        rw [HL.out] at h
        rw [← hn2l, List.take_length, List.drop_length, List.nil_append, ← List.append_assoc (u.take n1), List.take_append_drop]
        exact h)
      have HN1 := Lib.hid (show i = a + n1 ∧ m = i + n2 by have := HMB.out; omega)
      obtain ⟨u1, hu1⟩ : ∃ u1, u1 = u.take n1 := ⟨_, rfl⟩
      obtain ⟨u2, hu2⟩ : ∃ u2, u2 = u.drop n1 := ⟨_, rfl⟩
      rw [← hu1, ← hu2] at HST HRS
      have HUL := Lib.hid (show u1.length = n1 ∧ u2.length = n2 by rw [hu1, hu2, List.length_take]; omega)
      obtain ⟨F2, hF2⟩ : ∃ F2, F2 = n2 := ⟨_, rfl⟩
      have hF2n : n2 ≤ F2 := by omega
      clear hn1 hu1 hu2 hn2 hn2l HI HR hF2
      go_wp2
      go_loopg [17] F2 (fun gg vk wr => ∃ k t : Nat, vk = .int .i64 k ∧ Hid (k = i + t) ∧ t ≤ n2 ∧ t ≤ gg ∧ Hid (Row wr W0.heap.size g N c (p ++ (u1 ++ (u2.take t ++ (y0, y1, y2, y3, y4, y5, y6, y7) :: (u2.drop t ++ q))))) ∧ Hid (W.grownBy wr (some g)))
      case atStart => exact ⟨m, n2, rfl, Lib.hid HN1.out.2, Nat.le_refl _, hF2n, HRS, HG⟩
      case round =>
        clear HRS HG hF2n
        obtain ⟨k, t, rfl, HKT, htn, hng, HR, HG⟩ := hrel
        by_cases htl : 0 < t
        · have hkI : (i : Int) < (k : Int) := by have := HKT.out; omega
          obtain ⟨k1, hk1⟩ : ∃ k1, k1 = k - 1 := ⟨_, rfl⟩
          have hk1I : (k : Int) - 1 = (k1 : Int) := by have := HKT.out; omega
          have qk : (k : Int) < (N : Int) := i_lt (by have := HKT.out; have := HN1.out; omega)
          have qk1 : (k1 : Int) < (N : Int) := i_lt (by have := HKT.out; have := HN1.out; omega)
          obtain ⟨s, hst⟩ : ∃ s, t = s + 1 := ⟨t - 1, by omega⟩
          have hlt2 : s < u2.length := by have := HUL.out; omega
          obtain ⟨x, hx⟩ : ∃ x, x = u2[s] := ⟨_, rfl⟩
          have hv5 : u2.take t = u2.take s ++ [x] := by rw [hst, hx]; exact (List.take_append_getElem hlt2).symm
          have hv4 : u2.drop s = x :: u2.drop t := by rw [hst, hx]; exact List.drop_eq_getElem_cons hlt2
          obtain ⟨x0, x1, x2, x3, x4, x5, x6, x7⟩ := x
          obtain ⟨M, hM⟩ : ∃ M, M = p ++ (u1 ++ (u2.take t ++ (y0, y1, y2, y3, y4, y5, y6, y7) :: (u2.drop t ++ q))) := ⟨_, rfl⟩
          have hsw := swap_mid' (l := M) (p := p ++ (u1 ++ u2.take s)) (m := []) (q := u2.drop t ++ q) (x := (x0, x1, x2, x3, x4, x5, x6, x7)) (y := (y0, y1, y2, y3, y4, y5, y6, y7)) (i := k1) (j := k) (by rw [hM, hv5]; simp only [List.append_assoc, List.cons_append, List.nil_append]) (by simp only [List.length_append, List.length_take]; have h1 := HKT.out; have h2 := HUL.out; have h3 := HN1.out; have h4 := HA.out; omega) (by simp only [List.length_nil]; have := HKT.out; omega)
          rw [← hM] at HR
          have HX := Lib.hid hsw.2.1
          have HY := Lib.hid hsw.1
          have HE : Hid ((M.set k (x0, x1, x2, x3, x4, x5, x6, x7)).set k1 (y0, y1, y2, y3, y4, y5, y6, y7) = p ++ (u1 ++ (u2.take s ++ (y0, y1, y2, y3, y4, y5, y6, y7) :: (u2.drop s ++ q)))) := Lib.hid (by
            have e := hsw.2.2.2
            unfold swapL at e
            rw [e, hv4]
            simp only [List.append_assoc, List.cons_append, List.nil_append])
          have hne : k ≠ k1 := by have := HKT.out; omega
          have HZ2 : Hid ((M.set k (x0, x1, x2, x3, x4, x5, x6, x7))[k1]? = some (x0, x1, x2, x3, x4, x5, x6, x7)) := Lib.hid (by rw [List.getElem?_set_ne hne]; exact hsw.1)
          have HS1 := Lib.hid (show k1 = i + s ∧ s + 1 = t by have := HKT.out; omega)
          have hk1N : k1 ≤ N := by omega
          clear hsw hM hv4 hv5 hne hk1 hst hx
          have wk1 := w_le hk1N hN
          obtain ⟨e0, e1, e2, e3, e4, e5, e6, e7⟩ := row_load HR.out HAD.out HX.out
          obtain ⟨f0, f1, f2, f3, f4, f5, f6, f7⟩ := row_load HR.out HAD.out HY.out
          simp only at e0 e1 e2 e3 e4 e5 e6 e7 f0 f1 f2 f3 f4 f5 f6 f7
          go_wp2_with fail
          refine start_ (n := 18) (S := fun w' => w'.cell? (ad.add (k * 8)) = some (.string y0) ∧ w'.cell? ⟨(ad.add (k * 8)).block, (ad.add (k * 8)).off + 1, none⟩ = some (.int .i64 y1) ∧ w'.cell? ⟨(ad.add (k * 8)).block, (ad.add (k * 8)).off + 2, none⟩ = some (.int .u32 y2) ∧ w'.cell? ⟨(ad.add (k * 8)).block, (ad.add (k * 8)).off + 3, none⟩ = some (.int .u32 y3) ∧ w'.cell? ⟨(ad.add (k * 8)).block, (ad.add (k * 8)).off + 4, none⟩ = some (.int .u32 y4) ∧ w'.cell? ⟨(ad.add (k * 8)).block, (ad.add (k * 8)).off + 5, none⟩ = some (.int .i64 y5) ∧ w'.cell? ⟨(ad.add (k * 8)).block, (ad.add (k * 8)).off + 6, none⟩ = some (.int .i64 y6) ∧ w'.cell? ⟨(ad.add (k * 8)).block, (ad.add (k * 8)).off + 7, none⟩ = some (.string y7) ∧ w'.cell? (ad.add (k1 * 8)) = some (.string x0) ∧ w'.cell? ⟨(ad.add (k1 * 8)).block, (ad.add (k1 * 8)).off + 1, none⟩ = some (.int .i64 x1) ∧ w'.cell? ⟨(ad.add (k1 * 8)).block, (ad.add (k1 * 8)).off + 2, none⟩ = some (.int .u32 x2) ∧ w'.cell? ⟨(ad.add (k1 * 8)).block, (ad.add (k1 * 8)).off + 3, none⟩ = some (.int .u32 x3) ∧ w'.cell? ⟨(ad.add (k1 * 8)).block, (ad.add (k1 * 8)).off + 4, none⟩ = some (.int .u32 x4) ∧ w'.cell? ⟨(ad.add (k1 * 8)).block, (ad.add (k1 * 8)).off + 5, none⟩ = some (.int .i64 x5) ∧ w'.cell? ⟨(ad.add (k1 * 8)).block, (ad.add (k1 * 8)).off + 6, none⟩ = some (.int .i64 x6) ∧ w'.cell? ⟨(ad.add (k1 * 8)).block, (ad.add (k1 * 8)).off + 7, none⟩ = some (.string x7)) (ds := [15, 17]) #[false, false, false, false, false, false, false, false, false, false, false, false, false, false, false, false, false, false] (by kernel_rfl) rfl rfl ⟨e0, e1, e2, e3, e4, e5, e6, e7, f0, f1, f2, f3, f4, f5, f6, f7⟩ (fun hHeld => ?_)
          have HRd := Lib.hid (Row.below HR.out (below_drew (Below.refl wr.heap.size wr)))
          have HGd := Lib.hid (grown_drew HG.out)
          generalize wr.drew = W1 at *
          refine pure_ (i := 0) (N := some 113) (v := ?_) (a' := ?_) #[true, false, false, false, false, false, false, false, false, false, false, false, false, false, false, false, false, false] rfl rfl (by kernel_rfl) (fun _ _ _ h => h) (Or.inl ⟨by rfl, ?_⟩) ?_ ?_
          rotate_left
          · intro w'
            go_simp
            with_reducible rfl
          rotate_left
          · simp only [Act.put, List.setIfInBounds_toArray, List.set_cons_zero, List.set_cons_succ, i64_w, i32_w]
            rfl
          refine pure_ (i := 1) (N := some 114) (v := ?_) (a' := ?_) #[true, true, false, false, false, false, false, false, false, false, false, false, false, false, false, false, false, false] rfl rfl (by kernel_rfl) (fun _ _ _ h => h) (Or.inl ⟨by rfl, ?_⟩) ?_ ?_
          rotate_left
          · intro w'
            go_simp
            with_reducible rfl
          rotate_left
          · simp only [Act.put, List.setIfInBounds_toArray, List.set_cons_zero, List.set_cons_succ, i64_w, i32_w]
            rfl
          refine pure_ (i := 2) (N := some 115) (v := ?_) (a' := ?_) #[true, true, true, false, false, false, false, false, false, false, false, false, false, false, false, false, false, false] rfl rfl (by kernel_rfl) (fun _ _ _ h => h) (Or.inl ⟨by rfl, ?_⟩) ?_ ?_
          rotate_left
          · intro w'
            go_simp
            with_reducible rfl
          rotate_left
          · simp only [Act.put, List.setIfInBounds_toArray, List.set_cons_zero, List.set_cons_succ, i64_w, i32_w]
            rfl
          refine pure_ (i := 3) (N := some 116) (v := ?_) (a' := ?_) #[true, true, true, true, false, false, false, false, false, false, false, false, false, false, false, false, false, false] rfl rfl (by kernel_rfl) (fun _ _ _ h => h) (Or.inl ⟨by rfl, ?_⟩) ?_ ?_
          rotate_left
          · intro w'
            go_simp
            with_reducible rfl
          rotate_left
          · simp only [Act.put, List.setIfInBounds_toArray, List.set_cons_zero, List.set_cons_succ, i64_w, i32_w]
            rfl
          refine pure_ (i := 4) (N := some 117) (v := ?_) (a' := ?_) #[true, true, true, true, true, false, false, false, false, false, false, false, false, false, false, false, false, false] rfl rfl (by kernel_rfl) (fun _ _ _ h => h) (Or.inl ⟨by rfl, ?_⟩) ?_ ?_
          rotate_left
          · intro w'
            go_simp
            with_reducible rfl
          rotate_left
          · simp only [Act.put, List.setIfInBounds_toArray, List.set_cons_zero, List.set_cons_succ, i64_w, i32_w]
            rfl
          refine pure_ (i := 5) (N := some 118) (v := ?_) (a' := ?_) #[true, true, true, true, true, true, false, false, false, false, false, false, false, false, false, false, false, false] rfl rfl (by kernel_rfl) (fun _ _ _ h => h) (Or.inl ⟨by rfl, ?_⟩) ?_ ?_
          rotate_left
          · intro w'
            go_simp
            with_reducible rfl
          rotate_left
          · simp only [Act.put, List.setIfInBounds_toArray, List.set_cons_zero, List.set_cons_succ, i64_w, i32_w]
            rfl
          refine pure_ (i := 6) (N := some 119) (v := ?_) (a' := ?_) #[true, true, true, true, true, true, true, false, false, false, false, false, false, false, false, false, false, false] rfl rfl (by kernel_rfl) (fun _ _ _ h => h) (Or.inl ⟨by rfl, ?_⟩) ?_ ?_
          rotate_left
          · intro w'
            go_simp
            with_reducible rfl
          rotate_left
          · simp only [Act.put, List.setIfInBounds_toArray, List.set_cons_zero, List.set_cons_succ, i64_w, i32_w]
            rfl
          refine pure_ (i := 7) (N := some 120) (v := ?_) (a' := ?_) #[true, true, true, true, true, true, true, true, false, false, false, false, false, false, false, false, false, false] rfl rfl (by kernel_rfl) (fun _ _ _ h => h) (Or.inl ⟨by rfl, ?_⟩) ?_ ?_
          rotate_left
          · intro w'
            go_simp
            with_reducible rfl
          rotate_left
          · simp only [Act.put, List.setIfInBounds_toArray, List.set_cons_zero, List.set_cons_succ, i64_w, i32_w]
            rfl
          refine pure_ (i := 8) (N := some 121) (v := ?_) (a' := ?_) #[true, true, true, true, true, true, true, true, true, false, false, false, false, false, false, false, false, false] rfl rfl (by kernel_rfl) (fun _ _ _ h => h) (Or.inl ⟨by rfl, ?_⟩) ?_ ?_
          rotate_left
          · intro w'
            go_simp
            with_reducible rfl
          rotate_left
          · simp only [Act.put, List.setIfInBounds_toArray, List.set_cons_zero, List.set_cons_succ, i64_w, i32_w]
            rfl
          refine pure_ (i := 10) (N := some 123) (v := ?_) (a' := ?_) #[true, true, true, true, true, true, true, true, true, false, true, false, false, false, false, false, false, false] rfl rfl (by kernel_rfl) (fun _ _ _ h => h) (Or.inl ⟨by rfl, ?_⟩) ?_ ?_
          rotate_left
          · intro w'
            go_simp
            with_reducible rfl
          rotate_left
          · simp only [Act.put, List.setIfInBounds_toArray, List.set_cons_zero, List.set_cons_succ, i64_w, i32_w]
            rfl
          refine pure_ (i := 11) (N := some 124) (v := ?_) (a' := ?_) #[true, true, true, true, true, true, true, true, true, false, true, true, false, false, false, false, false, false] rfl rfl (by kernel_rfl) (fun _ _ _ h => h) (Or.inl ⟨by rfl, ?_⟩) ?_ ?_
          rotate_left
          · intro w'
            go_simp
            with_reducible rfl
          rotate_left
          · simp only [Act.put, List.setIfInBounds_toArray, List.set_cons_zero, List.set_cons_succ, i64_w, i32_w]
            rfl
          refine pure_ (i := 12) (N := some 125) (v := ?_) (a' := ?_) #[true, true, true, true, true, true, true, true, true, false, true, true, true, false, false, false, false, false] rfl rfl (by kernel_rfl) (fun _ _ _ h => h) (Or.inl ⟨by rfl, ?_⟩) ?_ ?_
          rotate_left
          · intro w'
            go_simp
            with_reducible rfl
          rotate_left
          · simp only [Act.put, List.setIfInBounds_toArray, List.set_cons_zero, List.set_cons_succ, i64_w, i32_w]
            rfl
          refine take_ (i := 9) (N := some 122) (v := ?_) (a' := ?_) #[true, true, true, true, true, true, true, true, true, true, true, true, true, false, false, false, false, false] rfl rfl (by kernel_rfl) (fun _ _ _ h => h) (Or.inl ⟨by rfl, ?_⟩) hHeld ?_ ?_
          rotate_left
          · rintro w' ⟨s0, s1, s2, s3, s4, s5, s6, s7, s8, s9, s10, s11, s12, s13, s14, s15⟩
            go_simp
            with_reducible rfl
          rotate_left
          · simp only [Act.put, List.setIfInBounds_toArray, List.set_cons_zero, List.set_cons_succ, i64_w, i32_w]
            rfl
          refine take_ (i := 13) (N := some 126) (v := ?_) (a' := ?_) #[true, true, true, true, true, true, true, true, true, true, true, true, true, true, false, false, false, false] rfl rfl (by kernel_rfl) (fun _ _ _ h => h) (Or.inl ⟨by rfl, ?_⟩) hHeld ?_ ?_
          rotate_left
          · rintro w' ⟨s0, s1, s2, s3, s4, s5, s6, s7, s8, s9, s10, s11, s12, s13, s14, s15⟩
            go_simp
            with_reducible rfl
          rotate_left
          · simp only [Act.put, List.setIfInBounds_toArray, List.set_cons_zero, List.set_cons_succ, i64_w, i32_w]
            rfl
          refine pure_ (i := 14) (N := some 127) (v := ?_) (a' := ?_) #[true, true, true, true, true, true, true, true, true, true, true, true, true, true, true, false, false, false] rfl rfl (by kernel_rfl) (fun _ _ _ h => h) (Or.inl ⟨by rfl, ?_⟩) ?_ ?_
          rotate_left
          · intro w'
            go_simp
            with_reducible rfl
          rotate_left
          · simp only [Act.put, List.setIfInBounds_toArray, List.set_cons_zero, List.set_cons_succ, i64_w, i32_w]
            rfl
          refine last_ (i := 15) (N := none) #[true, true, true, true, true, true, true, true, true, true, true, true, true, true, true, true, false, false] rfl rfl (by kernel_rfl) (by decide) (fun K hK => ?_)
          refine skip_ (w1 := _) (by rfl) rfl (store_item (k := k) (x0, x1, x2, x3, x4, x5, x6, x7) rfl rfl rfl HAD.out HRd.out HX.out) ?_
          have hs1 := row_set (x0, x1, x2, x3, x4, x5, x6, x7) HRd.out HX.out
          have HR2 := Lib.hid hs1.1
          have HG2 := Lib.hid (grown_trans HGd.out hs1.2)
          clear hs1
          generalize W1.setCells g (k * 8) (cellsI (x0, x1, x2, x3, x4, x5, x6, x7)) = W2 at *
          refine hK.out _ _ ?_
          clear hK K
          refine pure_ (i := 16) (N := some 128) (v := ?_) (a' := ?_) #[true, true, true, true, true, true, true, true, true, true, true, true, true, true, true, true, true, false] rfl rfl (by kernel_rfl) (fun _ _ _ h => h) (Or.inl ⟨by rfl, ?_⟩) ?_ ?_
          rotate_left
          · intro w'
            go_simp
            with_reducible rfl
          rotate_left
          · simp only [Act.put, List.setIfInBounds_toArray, List.set_cons_zero, List.set_cons_succ, i64_w, i32_w]
            rfl
          refine last_ (i := 17) (N := none) #[true, true, true, true, true, true, true, true, true, true, true, true, true, true, true, true, true, true] rfl rfl (by kernel_rfl) (by decide) (fun K hK => ?_)
          refine skip_ (w1 := _) (by rfl) rfl (store_item (k := k1) (y0, y1, y2, y3, y4, y5, y6, y7) rfl rfl rfl HAD.out HR2.out HZ2.out) ?_
          have hs1 := row_set (y0, y1, y2, y3, y4, y5, y6, y7) HR2.out HZ2.out
          have HR3 := Lib.hid hs1.1
          have HG3 := Lib.hid (grown_trans HG2.out hs1.2)
          clear hs1
          generalize W2.setCells g (k1 * 8) (cellsI (y0, y1, y2, y3, y4, y5, y6, y7)) = W3 at *
          refine hK.out _ _ ?_
          clear hK K
          refine done_ (by kernel_rfl) ?_
          clear e0 e1 e2 e3 e4 e5 e6 e7 f0 f1 f2 f3 f4 f5 f6 f7
          have HR4 : Hid (Row W3 W0.heap.size g N c (p ++ (u1 ++ (u2.take s ++ (y0, y1, y2, y3, y4, y5, y6, y7) :: (u2.drop s ++ q))))) := Lib.hid (by rw [← HE.out]; exact HR3.out)
          clear HR HG HRd HGd HR2 HG2 HR3 HE HX HY HZ2 wk1
          go_wp2
          go_roundg (gk - 1)
          case measure => omega
          case rel => exact ⟨k1, s, by go_num, Lib.hid HS1.out.1, by have := HS1.out; omega, by have := HS1.out; omega, HR4, HG3⟩
        · have hkI : ¬ (i : Int) < (k : Int) := by have := HKT.out; omega
          have htn2 : t = 0 := by omega
          have HR4 : Hid (Row wr W0.heap.size g N c (p ++ ((u1 ++ (y0, y1, y2, y3, y4, y5, y6, y7) :: u2) ++ q))) := Lib.hid (by
            have h := HR.out
            rw [htn2, List.take_zero, List.drop_zero] at h
            simpa using h)
          clear HR
          go_wp2
          refine bodyPost_ret (results_none rfl _ _ _) rfl ?_
          exact ⟨rfl, ⟨_, HR4.out, HST.out⟩, HG.out⟩
end Go.Proofs.YtpjjooiamdfmfaaGreatDoor.SortMrgB
