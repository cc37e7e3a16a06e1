/- sort: symMerge, where one stands ahead. -/
import Derived.Test.YtpjjooiamdfmfaaGreatDoorSortIns
import Derived.Deep.Light
set_option linter.unusedVariables false
set_option linter.unusedSimpArgs false
namespace Go.Proofs.YtpjjooiamdfmfaaGreatDoor.SortMrgA
open Go.RowKit Go.Proofs.YtpjjooiamdfmfaaGreatDoorW.PrintWords Go.Proofs.YtpjjooiamdfmfaaGreatDoorW.PrintLast Go.Proofs.YtpjjooiamdfmfaaGreatDoorW.PrintMore Go.Proofs.YtpjjooiamdfmfaaGreatDoor.Item Go.Proofs.YtpjjooiamdfmfaaGreatDoor.Own Go.Proofs.YtpjjooiamdfmfaaGreatDoor.Stab Go.Proofs.YtpjjooiamdfmfaaGreatDoor.SortLaw Go.Proofs.YtpjjooiamdfmfaaGreatDoor.TreeLaw Go.Proofs.YtpjjooiamdfmfaaGreatDoor.NameWalk Go.Proofs.YtpjjooiamdfmfaaGreatDoor.SortSwap Go.Proofs.YtpjjooiamdfmfaaGreatDoor.SortIns

theorem h_mid {i j h : Nat} (e : h = (i + j) / 2) : ((i : Int) + (j : Int)) / 2 = (h : Int) := by omega
theorem mid_in {i j h : Nat} (e : h = (i + j) / 2) (k : i < j) : i ≤ h ∧ h < j := by omega
/-- Where a search in a sorted row has come to its end. -/
theorem cutA {v : List It} {x : It} {i : Nat} (hs : Sorted ltI v) (hi : i ≤ v.length) (h1 : i = 0 ∨ ∃ y, v[i - 1]? = some y ∧ ltI y x = true) (h2 : i = v.length ∨ ∃ y, v[i]? = some y ∧ ltI y x = false) : Stb ltI (x :: v) (v.take i ++ x :: v.drop i) := by
  have := lead_done swoI (v1 := v.take i) (v2 := v.drop i) (x := x) (by rw [List.take_append_drop]; exact hs) ?_ ?_
  · rw [List.take_append_drop] at this; exact this
  · intro y hy
    rcases h1 with e | ⟨z, hz, hl⟩
    · subst e; simp at hy
    · by_cases h0 : i = 0
      · subst h0; simp at hy
      · rw [List.getLast?_eq_getElem?, List.length_take, Nat.min_eq_left hi, List.getElem?_take_of_lt (by omega), hz] at hy
        injection hy with hy
        rw [← hy]; exact hl
  · intro y hy
    rw [List.head?_drop] at hy
    rcases h2 with e | ⟨z, hz, hl⟩
    · subst e; simp at hy
    · rw [hz] at hy
      injection hy with hy
      rw [← hy]; exact hl
theorem cutB {u : List It} {y : It} {i : Nat} (hs : Sorted ltI u) (hi : i ≤ u.length) (h1 : i = 0 ∨ ∃ x, u[i - 1]? = some x ∧ ltI y x = false) (h2 : i = u.length ∨ ∃ x, u[i]? = some x ∧ ltI y x = true) : Stb ltI (u ++ [y]) (u.take i ++ y :: u.drop i) := by
  have := tail_done swoI (u1 := u.take i) (u2 := u.drop i) (y := y) (by rw [List.take_append_drop]; exact hs) ?_ ?_
  · rw [List.take_append_drop] at this; exact this
  · intro x hx
    rcases h1 with e | ⟨z, hz, hl⟩
    · subst e; simp at hx
    · by_cases h0 : i = 0
      · subst h0; simp at hx
      · rw [List.getLast?_eq_getElem?, List.length_take, Nat.min_eq_left hi, List.getElem?_take_of_lt (by omega), hz] at hx
        injection hx with hx
        rw [← hx]; exact hl
  · intro x hx
    rw [List.head?_drop] at hx
    rcases h2 with e | ⟨z, hz, hl⟩
    · subst e; simp at hx
    · rw [hz] at hx
      injection hx with hx
      rw [← hx]; exact hl
theorem in_mid {p v q : List It} {x : It} {k : Nat} (h : k < v.length) : (p ++ x :: (v ++ q))[p.length + 1 + k]? = v[k]? := by
  rw [List.getElem?_append_right (by omega), show p.length + 1 + k - p.length = k + 1 by omega, List.getElem?_cons_succ, List.getElem?_append_left h]
theorem in_left {p u q : List It} {k : Nat} (h : k < u.length) : (p ++ (u ++ q))[p.length + k]? = u[k]? := by
  rw [List.getElem?_append_right (by omega), show p.length + k - p.length = k by omega, List.getElem?_append_left h]
set_option maxHeartbeats 8000000 in
set_option maxRecDepth 100000 in
theorem mergeA (W0 : World) (hgl : Glob W0) (g N c a m b : Nat) (p v q : List It) (x0 : ByteArray) (x1 x2 x3 x4 x5 x6 : Int) (x7 : ByteArray) (W : World) (hN : N ≤ 1000000) (ha : a = p.length) (hm : m = a + 1) (hb : b = m + v.length) (hs : Sorted ltI v) (hx : x0.size < 4294967281) (hsz : Short v) (hB : Below W0.heap.size W0 W) (h : Row W W0.heap.size g N c (p ++ (x0, x1, x2, x3, x4, x5, x6, x7) :: (v ++ q))) :
    Calls Tryz.prog 145 #[.slice (some ⟨g, 0, none⟩) N c, .int .i64 a, .int .i64 m, .int .i64 b, .func (.func 63) #[] #[]] W fun e w' => e = .returned (.tuple #[]) ∧ (∃ s, Row w' W0.heap.size g N c (p ++ (s ++ q)) ∧ Stb ltI ((x0, x1, x2, x3, x4, x5, x6, x7) :: v) s) ∧ W.grownBy w' (some g) := by
  obtain ⟨ad, had⟩ : ∃ ad : Addr, ad = ⟨g, 0, none⟩ := ⟨_, rfl⟩
  rw [← had]
  have HAD := Lib.hid had
  have HGL := Lib.hid hgl
  have HB := Lib.hid hB
  have HNG := Lib.hid h.base
  have HR0 := Lib.hid h
  have HGO := Lib.hid (grown_refl W (some g))
  have hlen := h.1
  simp only [List.length_append, List.length_cons] at hlen
  have HSX := Lib.hid hx
  have HSZ := Lib.hid hsz
  have HS := Lib.hid hs
  have HA := Lib.hid ha
  have hbN : b ≤ N := by omega
  obtain ⟨L, hL⟩ : ∃ L, L = p ++ (x0, x1, x2, x3, x4, x5, x6, x7) :: (v ++ q) := ⟨_, rfl⟩
  rw [← hL] at HR0
  have HL := Lib.hid hL
  have HLX : Hid (L[a]? = some (x0, x1, x2, x3, x4, x5, x6, x7)) := Lib.hid (at_mid' hL ha)
  have HAT : Hid (∀ k, k < v.length → L[m + k]? = v[k]?) := Lib.hid (fun k hk => by rw [hL, hm, ha]; exact in_mid hk)
  have haN : a < N := by omega
  have HMB := Lib.hid (show m ≤ b ∧ b - m = v.length ∧ m = a + 1 by omega)
  have hmb : m ≤ b := by omega
  have q0 : ((m : Int) - (a : Int) == 1) = true := beq_iff_eq.2 (by omega)
  have ham : (a : Int) ≤ m := by omega
  have qa : (a : Int) < (N : Int) := i_lt haN
  obtain ⟨F, hF⟩ : ∃ F, F = b := ⟨_, rfl⟩
  have hFb : b ≤ m + F := by omega
  clear had hgl hB h hsz ha hb hs hx hlen hF hL hm
  go_enter Tryz.func145, Tryz.ntmps145
  go_wp2
  go_loopg [10, 11, 12] F (fun gg vi vj vh wr => ∃ i j : Nat, vi = .int .i64 i ∧ vj = .int .i64 j ∧ m ≤ i ∧ i ≤ j ∧ j ≤ b ∧ j ≤ i + gg ∧ Hid ((i = m ∨ ∃ y, v[i - m - 1]? = some y ∧ ltI y (x0, x1, x2, x3, x4, x5, x6, x7) = true) ∧ (j = b ∨ ∃ y, v[j - m]? = some y ∧ ltI y (x0, x1, x2, x3, x4, x5, x6, x7) = false)) ∧ Hid (Row wr W0.heap.size g N c L) ∧ Hid (W.grownBy wr (some g)))
  case atStart => exact ⟨m, b, rfl, rfl, Nat.le_refl _, hmb, Nat.le_refl _, hFb, Lib.hid ⟨.inl rfl, .inl rfl⟩, HR0, HGO⟩
  case round =>
    clear HR0 HGO hFb
    obtain ⟨i, j, rfl, rfl, hmi, hij, hjb, hjg, HI, HR, HG⟩ := hrel
    by_cases hlt : i < j
    · have hltI : (i : Int) < (j : Int) := i_lt hlt
      obtain ⟨hh, hh2⟩ : ∃ h, h = (i + j) / 2 := ⟨_, rfl⟩
      have hhI := h_mid hh2
      have hhij := mid_in hh2 hlt
      have hhv : hh - m < v.length := by have := HMB.out; omega
      obtain ⟨y, hy⟩ : ∃ y, v[hh - m]? = some y := ⟨_, List.getElem?_eq_getElem hhv⟩
      have hLy : L[hh]? = some y := by have := HAT.out (hh - m) hhv; rw [show m + (hh - m) = hh by omega] at this; rw [this, hy]
      obtain ⟨y0, y1, y2, y3, y4, y5, y6, y7⟩ := y
      have HX := Lib.hid hLy
      have HYV := Lib.hid hy
      have HSY : Hid (y0.size < 4294967281) := Lib.hid (HSZ.out (y0, y1, y2, y3, y4, y5, y6, y7) (List.mem_of_getElem? hy))
      have HLT : Hid (ltI (y0, y1, y2, y3, y4, y5, y6, y7) (x0, x1, x2, x3, x4, x5, x6, x7) = decide (orderT y0 x0 < 0)) := Lib.hid rfl
      have qh : (hh : Int) < (N : Int) := i_lt (by omega)
      clear hh2 hhv hy hLy
      obtain ⟨e0, e1, e2, e3, e4, e5, e6, e7⟩ := row_load HR.out HAD.out HX.out
      obtain ⟨f0, f1, f2, f3, f4, f5, f6, f7⟩ := row_load HR.out HAD.out HLX.out
      simp only at e0 e1 e2 e3 e4 e5 e6 e7 f0 f1 f2 f3 f4 f5 f6 f7
      go_wp2_with fail
      refine start_ (n := 11) (S := fun w' => w'.cell? (ad.add (hh * 8)) = some (.string y0) ∧ w'.cell? ⟨(ad.add (hh * 8)).block, (ad.add (hh * 8)).off + 1, none⟩ = some (.int .i64 y1) ∧ w'.cell? ⟨(ad.add (hh * 8)).block, (ad.add (hh * 8)).off + 2, none⟩ = some (.int .u32 y2) ∧ w'.cell? ⟨(ad.add (hh * 8)).block, (ad.add (hh * 8)).off + 3, none⟩ = some (.int .u32 y3) ∧ w'.cell? ⟨(ad.add (hh * 8)).block, (ad.add (hh * 8)).off + 4, none⟩ = some (.int .u32 y4) ∧ w'.cell? ⟨(ad.add (hh * 8)).block, (ad.add (hh * 8)).off + 5, none⟩ = some (.int .i64 y5) ∧ w'.cell? ⟨(ad.add (hh * 8)).block, (ad.add (hh * 8)).off + 6, none⟩ = some (.int .i64 y6) ∧ w'.cell? ⟨(ad.add (hh * 8)).block, (ad.add (hh * 8)).off + 7, none⟩ = some (.string y7) ∧ w'.cell? (ad.add (a * 8)) = some (.string x0) ∧ w'.cell? ⟨(ad.add (a * 8)).block, (ad.add (a * 8)).off + 1, none⟩ = some (.int .i64 x1) ∧ w'.cell? ⟨(ad.add (a * 8)).block, (ad.add (a * 8)).off + 2, none⟩ = some (.int .u32 x2) ∧ w'.cell? ⟨(ad.add (a * 8)).block, (ad.add (a * 8)).off + 3, none⟩ = some (.int .u32 x3) ∧ w'.cell? ⟨(ad.add (a * 8)).block, (ad.add (a * 8)).off + 4, none⟩ = some (.int .u32 x4) ∧ w'.cell? ⟨(ad.add (a * 8)).block, (ad.add (a * 8)).off + 5, none⟩ = some (.int .i64 x5) ∧ w'.cell? ⟨(ad.add (a * 8)).block, (ad.add (a * 8)).off + 6, none⟩ = some (.int .i64 x6) ∧ w'.cell? ⟨(ad.add (a * 8)).block, (ad.add (a * 8)).off + 7, none⟩ = some (.string x7)) (ds := [9]) #[false, false, false, false, false, false, false, false, false, false, false] (by kernel_rfl) rfl rfl ⟨e0, e1, e2, e3, e4, e5, e6, e7, f0, f1, f2, f3, f4, f5, f6, f7⟩ (fun hHeld => ?_)
      have HRd := Lib.hid (Row.below HR.out (below_drew (Below.refl wr.heap.size wr)))
      have HGd := Lib.hid (grown_drew HG.out)
      generalize wr.drew = W1 at *
      refine pure_ (i := 0) (N := some 40) (v := ?_) (a' := ?_) #[true, false, false, false, false, false, false, false, false, false, false] rfl rfl (by kernel_rfl) (fun _ _ _ h => h) (Or.inl ⟨by rfl, ?_⟩) ?_ ?_
      rotate_left
      · intro w'
        go_simp
        with_reducible rfl
      rotate_left
      · simp only [Act.put, List.setIfInBounds_toArray, List.set_cons_zero, List.set_cons_succ, i64_w, i32_w]
        rfl
      refine pure_ (i := 1) (N := some 41) (v := ?_) (a' := ?_) #[true, true, false, false, false, false, false, false, false, false, false] rfl rfl (by kernel_rfl) (fun _ _ _ h => h) (Or.inl ⟨by rfl, ?_⟩) ?_ ?_
      rotate_left
      · intro w'
        go_simp
        with_reducible rfl
      rotate_left
      · simp only [Act.put, List.setIfInBounds_toArray, List.set_cons_zero, List.set_cons_succ, i64_w, i32_w]
        rfl
      refine pure_ (i := 2) (N := some 42) (v := ?_) (a' := ?_) #[true, true, true, false, false, false, false, false, false, false, false] rfl rfl (by kernel_rfl) (fun _ _ _ h => h) (Or.inl ⟨by rfl, ?_⟩) ?_ ?_
      rotate_left
      · intro w'
        go_simp
        with_reducible rfl
      rotate_left
      · simp only [Act.put, List.setIfInBounds_toArray, List.set_cons_zero, List.set_cons_succ, i64_w, i32_w]
        rfl
      refine pure_ (i := 3) (N := some 43) (v := ?_) (a' := ?_) #[true, true, true, true, false, false, false, false, false, false, false] rfl rfl (by kernel_rfl) (fun _ _ _ h => h) (Or.inl ⟨by rfl, ?_⟩) ?_ ?_
      rotate_left
      · intro w'
        go_simp
        with_reducible rfl
      rotate_left
      · simp only [Act.put, List.setIfInBounds_toArray, List.set_cons_zero, List.set_cons_succ, i64_w, i32_w]
        rfl
      refine pure_ (i := 5) (N := some 45) (v := ?_) (a' := ?_) #[true, true, true, true, false, true, false, false, false, false, false] rfl rfl (by kernel_rfl) (fun _ _ _ h => h) (Or.inl ⟨by rfl, ?_⟩) ?_ ?_
      rotate_left
      · intro w'
        go_simp
        with_reducible rfl
      rotate_left
      · simp only [Act.put, List.setIfInBounds_toArray, List.set_cons_zero, List.set_cons_succ, i64_w, i32_w]
        rfl
      refine pure_ (i := 6) (N := some 46) (v := ?_) (a' := ?_) #[true, true, true, true, false, true, true, false, false, false, false] rfl rfl (by kernel_rfl) (fun _ _ _ h => h) (Or.inl ⟨by rfl, ?_⟩) ?_ ?_
      rotate_left
      · intro w'
        go_simp
        with_reducible rfl
      rotate_left
      · simp only [Act.put, List.setIfInBounds_toArray, List.set_cons_zero, List.set_cons_succ, i64_w, i32_w]
        rfl
      refine pure_ (i := 7) (N := some 47) (v := ?_) (a' := ?_) #[true, true, true, true, false, true, true, true, false, false, false] rfl rfl (by kernel_rfl) (fun _ _ _ h => h) (Or.inl ⟨by rfl, ?_⟩) ?_ ?_
      rotate_left
      · intro w'
        go_simp
        with_reducible rfl
      rotate_left
      · simp only [Act.put, List.setIfInBounds_toArray, List.set_cons_zero, List.set_cons_succ, i64_w, i32_w]
        rfl
      refine take_ (i := 4) (N := some 44) (v := ?_) (a' := ?_) #[true, true, true, true, true, true, true, true, false, false, false] rfl rfl (by kernel_rfl) (fun _ _ _ h => h) (Or.inl ⟨by rfl, ?_⟩) hHeld ?_ ?_
      rotate_left
      · rintro w' ⟨s0, s1, s2, s3, s4, s5, s6, s7, s8, s9, s10, s11, s12, s13, s14, s15⟩
        go_simp
        with_reducible rfl
      rotate_left
      · simp only [Act.put, List.setIfInBounds_toArray, List.set_cons_zero, List.set_cons_succ, i64_w, i32_w]
        rfl
      refine take_ (i := 8) (N := some 48) (v := ?_) (a' := ?_) #[true, true, true, true, true, true, true, true, true, false, false] rfl rfl (by kernel_rfl) (fun _ _ _ h => h) (Or.inl ⟨by rfl, ?_⟩) hHeld ?_ ?_
      rotate_left
      · rintro w' ⟨s0, s1, s2, s3, s4, s5, s6, s7, s8, s9, s10, s11, s12, s13, s14, s15⟩
        go_simp
        with_reducible rfl
      rotate_left
      · simp only [Act.put, List.setIfInBounds_toArray, List.set_cons_zero, List.set_cons_succ, i64_w, i32_w]
        rfl
      refine last_ (i := 9) (N := some 49) #[true, true, true, true, true, true, true, true, true, true, false] rfl rfl (by kernel_rfl) (by decide) (fun K hK => ?_)
      refine goesC_ (x := 40) (fn := Tryz.f63) (f := 63) Tryz.func63 (by kernel_rfl) rfl #[.agg #[.string y0, .int .i64 y1, .int .u32 y2, .int .u32 y3, .int .u32 y4, .int .i64 y5, .int .i64 y6, .string y7], .agg #[.string x0, .int .i64 x1, .int .u32 x2, .int .u32 x3, .int .u32 x4, .int .i64 x5, .int .i64 x6, .string x7]] (by rfl) rfl rfl rfl (by simp only [List.map_toArray, List.map_cons, List.map_nil]; rfl) ?_
      with_reducible refine (cmp_any y0 y1 y2 y3 y4 y5 y6 y7 x0 x1 x2 x3 x4 x5 x6 x7 W1 (HGL.out.below (below_row HB.out HGd.out HNG.out)) HSY.out HSX.out).mono ?_
      rintro e W4 ⟨rfl, hbc⟩
      have HRc := Lib.hid (HRd.out.below hbc)
      have HGc := Lib.hid (grown_below HGd.out hbc)
      clear hbc
      refine ⟨_, rfl, ?_⟩
      generalize orderT y0 x0 = rr at *
      refine hK.out _ _ ?_
      clear hK K
      refine norm_ (a' := ?_) ?_ ?_
      rotate_left
      · show Act.put _ (some 49) _ = _
        simp only [Act.put, List.setIfInBounds_toArray, List.set_cons_zero, List.set_cons_succ, i64_w, i32_w]
        rfl
      refine pure_ (i := 10) (N := some 50) (v := ?_) (a' := ?_) #[true, true, true, true, true, true, true, true, true, true, true] rfl rfl (by kernel_rfl) (fun _ _ _ h => h) (Or.inl ⟨by rfl, ?_⟩) ?_ ?_
      rotate_left
      · intro w'
        go_simp
        with_reducible rfl
      rotate_left
      · simp only [Act.put, List.setIfInBounds_toArray, List.set_cons_zero, List.set_cons_succ, i64_w, i32_w]
        rfl
      refine done_ (by kernel_rfl) ?_
      clear e0 e1 e2 e3 e4 e5 e6 e7 f0 f1 f2 f3 f4 f5 f6 f7
      clear HR HRd HG HGd
      by_cases hr : rr < 0
      · have q1 : decide (rr < 0) = true := decide_eq_true hr
        have HI2 : Hid ((hh + 1 = m ∨ ∃ y, v[hh + 1 - m - 1]? = some y ∧ ltI y (x0, x1, x2, x3, x4, x5, x6, x7) = true) ∧ (j = b ∨ ∃ y, v[j - m]? = some y ∧ ltI y (x0, x1, x2, x3, x4, x5, x6, x7) = false)) := Lib.hid ⟨.inr ⟨(y0, y1, y2, y3, y4, y5, y6, y7), by rw [show hh + 1 - m - 1 = hh - m by omega]; exact HYV.out, by rw [HLT.out]; exact q1⟩, HI.out.2⟩
        clear HI HX HYV HSY HLT
        go_wp2
        go_roundg (gk - 1)
        case measure => omega
        case rel => exact ⟨hh + 1, j, by go_num, rfl, by omega, by omega, hjb, by omega, HI2, HRc, HGc⟩
      · have q1 : decide (rr < 0) = false := decide_eq_false hr
        have HI2 : Hid ((i = m ∨ ∃ y, v[i - m - 1]? = some y ∧ ltI y (x0, x1, x2, x3, x4, x5, x6, x7) = true) ∧ (hh = b ∨ ∃ y, v[hh - m]? = some y ∧ ltI y (x0, x1, x2, x3, x4, x5, x6, x7) = false)) := Lib.hid ⟨HI.out.1, .inr ⟨(y0, y1, y2, y3, y4, y5, y6, y7), HYV.out, by rw [HLT.out]; exact q1⟩⟩
        clear HI HX HYV HSY HLT
        go_wp2
        go_roundg (gk - 1)
        case measure => omega
        case rel => exact ⟨i, hh, rfl, rfl, hmi, by omega, by omega, by omega, HI2, HRc, HGc⟩
    · have hltI : ¬ (i : Int) < (j : Int) := by omega
      have hji : i = j := by omega
      subst hji
      obtain ⟨n1, hn1⟩ : ∃ n1, n1 = i - m := ⟨_, rfl⟩
      have hnv : n1 ≤ v.length := by have := HMB.out; omega
      have HST : Hid (Stb ltI ((x0, x1, x2, x3, x4, x5, x6, x7) :: v) (v.take n1 ++ (x0, x1, x2, x3, x4, x5, x6, x7) :: v.drop n1)) := Lib.hid (by
        have hi := HI.out
        have hmb2 := HMB.out
        refine cutA HS.out hnv ?_ ?_
        · rcases hi.1 with e | e
          · exact .inl (by omega)
          · exact .inr (by rw [hn1]; exact e)
        · rcases hi.2 with e | e
          · exact .inl (by omega)
          · exact .inr (by rw [hn1]; exact e))
      have HRS : Hid (Row wr W0.heap.size g N c (p ++ ((v.take n1).take 0 ++ (x0, x1, x2, x3, x4, x5, x6, x7) :: ((v.take n1).drop 0 ++ (v.drop n1 ++ q))))) := Lib.hid (by
        have h := HR.out
        rw [HL.out] at h
        rw [List.take_zero, List.drop_zero, List.nil_append, ← List.append_assoc (v.take n1), List.take_append_drop]
        exact h)
      have HN1 := Lib.hid (show i = a + 1 + n1 by have := HMB.out; omega)
      obtain ⟨v1, hv1⟩ : ∃ v1, v1 = v.take n1 := ⟨_, rfl⟩
      obtain ⟨v2, hv2⟩ : ∃ v2, v2 = v.drop n1 := ⟨_, rfl⟩
      rw [← hv1, ← hv2] at HST HRS
      have hvl : v1.length = n1 := by rw [hv1, List.length_take]; omega
      have HVL := Lib.hid hvl
      obtain ⟨F2, hF2⟩ : ∃ F2, F2 = n1 := ⟨_, rfl⟩
      have hF2n : n1 ≤ 0 + F2 := by omega
      have hnN : a + n1 < N := by have := HMB.out; omega
      clear hn1 hv1 hv2 hvl HI HR hF2
      go_wp2
      go_loopg [13] F2 (fun gg vk wr => ∃ k t : Nat, vk = .int .i64 k ∧ Hid (k = a + t) ∧ t ≤ n1 ∧ n1 ≤ t + gg ∧ Hid (Row wr W0.heap.size g N c (p ++ (v1.take t ++ (x0, x1, x2, x3, x4, x5, x6, x7) :: (v1.drop t ++ (v2 ++ q))))) ∧ Hid (W.grownBy wr (some g)))
      case atStart => exact ⟨a, 0, rfl, Lib.hid rfl, Nat.zero_le _, hF2n, HRS, HG⟩
      case round =>
        clear HRS HG hF2n
        obtain ⟨k, t, rfl, HKT, htn, hng, HR, HG⟩ := hrel
        by_cases htl : t < n1
        · have hkI : (k : Int) < (i : Int) - 1 := by have := HN1.out; have := HKT.out; omega
          obtain ⟨k1, hk1⟩ : ∃ k1, k1 = k + 1 := ⟨_, rfl⟩
          have hk1I : (k : Int) + 1 = (k1 : Int) := by omega
          have qk : (k : Int) < (N : Int) := i_lt (by have := HKT.out; omega)
          have qk1 : (k1 : Int) < (N : Int) := i_lt (by have := HKT.out; omega)
          obtain ⟨y, v3, hv3⟩ : ∃ y v3, v1.drop t = y :: v3 := ⟨_, _, List.drop_eq_getElem_cons (by rw [HVL.out]; exact htl)⟩
          have hv4 : v1.drop (t + 1) = v3 := by
            have e := List.drop_eq_getElem_cons (show t < v1.length by rw [HVL.out]; exact htl)
            rw [hv3] at e
            injection e with _ e2
            exact e2.symm
          have hv5 : v1.take (t + 1) = v1.take t ++ [y] := by
            have hlt2 : t < v1.length := by rw [HVL.out]; exact htl
            rw [← List.take_append_getElem hlt2]
            rw [List.drop_eq_getElem_cons hlt2] at hv3
            injection hv3 with h1 h2
            rw [h1]
          obtain ⟨y0, y1, y2, y3, y4, y5, y6, y7⟩ := y
          obtain ⟨M, hM⟩ : ∃ M, M = p ++ (v1.take t ++ (x0, x1, x2, x3, x4, x5, x6, x7) :: (v1.drop t ++ (v2 ++ q))) := ⟨_, rfl⟩
          have hsw := swap_mid' (l := M) (p := p ++ v1.take t) (m := []) (q := v3 ++ (v2 ++ q)) (x := (x0, x1, x2, x3, x4, x5, x6, x7)) (y := (y0, y1, y2, y3, y4, y5, y6, y7)) (i := k) (j := k1) (by rw [hM, hv3]; simp only [List.append_assoc, List.cons_append, List.nil_append]) (by rw [List.length_append, List.length_take, HVL.out, ← HA.out]; have := HKT.out; omega) (by simp only [List.length_nil]; omega)
          rw [← hM] at HR
          have HX := Lib.hid hsw.1
          have HY := Lib.hid hsw.2.1
          have HE : Hid ((M.set k (y0, y1, y2, y3, y4, y5, y6, y7)).set k1 (x0, x1, x2, x3, x4, x5, x6, x7) = p ++ (v1.take (t + 1) ++ (x0, x1, x2, x3, x4, x5, x6, x7) :: (v1.drop (t + 1) ++ (v2 ++ q)))) := Lib.hid (by
            have e := hsw.2.2.1
            unfold swapL at e
            rw [e, hv4, hv5]
            simp)
          have hne : k ≠ k1 := by omega
          have HZ2 : Hid ((M.set k (y0, y1, y2, y3, y4, y5, y6, y7))[k1]? = some (y0, y1, y2, y3, y4, y5, y6, y7)) := Lib.hid (by rw [List.getElem?_set_ne hne]; exact hsw.2.1)
          have wk1 : Go.RowKit.wrap64 (k1 : Int) = (k1 : Int) := w_le (N := N) (by have := HKT.out; omega) hN
          clear hsw hM hv3 hv4 hv5 hne hk1
          obtain ⟨e0, e1, e2, e3, e4, e5, e6, e7⟩ := row_load HR.out HAD.out HX.out
          obtain ⟨f0, f1, f2, f3, f4, f5, f6, f7⟩ := row_load HR.out HAD.out HY.out
          simp only at e0 e1 e2 e3 e4 e5 e6 e7 f0 f1 f2 f3 f4 f5 f6 f7
          go_wp2_with fail
          refine start_ (n := 18) (S := fun w' => w'.cell? (ad.add (k * 8)) = some (.string x0) ∧ w'.cell? ⟨(ad.add (k * 8)).block, (ad.add (k * 8)).off + 1, none⟩ = some (.int .i64 x1) ∧ w'.cell? ⟨(ad.add (k * 8)).block, (ad.add (k * 8)).off + 2, none⟩ = some (.int .u32 x2) ∧ w'.cell? ⟨(ad.add (k * 8)).block, (ad.add (k * 8)).off + 3, none⟩ = some (.int .u32 x3) ∧ w'.cell? ⟨(ad.add (k * 8)).block, (ad.add (k * 8)).off + 4, none⟩ = some (.int .u32 x4) ∧ w'.cell? ⟨(ad.add (k * 8)).block, (ad.add (k * 8)).off + 5, none⟩ = some (.int .i64 x5) ∧ w'.cell? ⟨(ad.add (k * 8)).block, (ad.add (k * 8)).off + 6, none⟩ = some (.int .i64 x6) ∧ w'.cell? ⟨(ad.add (k * 8)).block, (ad.add (k * 8)).off + 7, none⟩ = some (.string x7) ∧ w'.cell? (ad.add (k1 * 8)) = some (.string y0) ∧ w'.cell? ⟨(ad.add (k1 * 8)).block, (ad.add (k1 * 8)).off + 1, none⟩ = some (.int .i64 y1) ∧ w'.cell? ⟨(ad.add (k1 * 8)).block, (ad.add (k1 * 8)).off + 2, none⟩ = some (.int .u32 y2) ∧ w'.cell? ⟨(ad.add (k1 * 8)).block, (ad.add (k1 * 8)).off + 3, none⟩ = some (.int .u32 y3) ∧ w'.cell? ⟨(ad.add (k1 * 8)).block, (ad.add (k1 * 8)).off + 4, none⟩ = some (.int .u32 y4) ∧ w'.cell? ⟨(ad.add (k1 * 8)).block, (ad.add (k1 * 8)).off + 5, none⟩ = some (.int .i64 y5) ∧ w'.cell? ⟨(ad.add (k1 * 8)).block, (ad.add (k1 * 8)).off + 6, none⟩ = some (.int .i64 y6) ∧ w'.cell? ⟨(ad.add (k1 * 8)).block, (ad.add (k1 * 8)).off + 7, none⟩ = some (.string y7)) (ds := [15, 17]) #[false, false, false, false, false, false, false, false, false, false, false, false, false, false, false, false, false, false] (by kernel_rfl) rfl rfl ⟨e0, e1, e2, e3, e4, e5, e6, e7, f0, f1, f2, f3, f4, f5, f6, f7⟩ (fun hHeld => ?_)
          have HRd := Lib.hid (Row.below HR.out (below_drew (Below.refl wr.heap.size wr)))
          have HGd := Lib.hid (grown_drew HG.out)
          generalize wr.drew = W1 at *
          refine pure_ (i := 0) (N := some 61) (v := ?_) (a' := ?_) #[true, false, false, false, false, false, false, false, false, false, false, false, false, false, false, false, false, false] rfl rfl (by kernel_rfl) (fun _ _ _ h => h) (Or.inl ⟨by rfl, ?_⟩) ?_ ?_
          rotate_left
          · intro w'
            go_simp
            with_reducible rfl
          rotate_left
          · simp only [Act.put, List.setIfInBounds_toArray, List.set_cons_zero, List.set_cons_succ, i64_w, i32_w]
            rfl
          refine pure_ (i := 1) (N := some 62) (v := ?_) (a' := ?_) #[true, true, false, false, false, false, false, false, false, false, false, false, false, false, false, false, false, false] rfl rfl (by kernel_rfl) (fun _ _ _ h => h) (Or.inl ⟨by rfl, ?_⟩) ?_ ?_
          rotate_left
          · intro w'
            go_simp
            with_reducible rfl
          rotate_left
          · simp only [Act.put, List.setIfInBounds_toArray, List.set_cons_zero, List.set_cons_succ, i64_w, i32_w]
            rfl
          refine pure_ (i := 2) (N := some 63) (v := ?_) (a' := ?_) #[true, true, true, false, false, false, false, false, false, false, false, false, false, false, false, false, false, false] rfl rfl (by kernel_rfl) (fun _ _ _ h => h) (Or.inl ⟨by rfl, ?_⟩) ?_ ?_
          rotate_left
          · intro w'
            go_simp
            with_reducible rfl
          rotate_left
          · simp only [Act.put, List.setIfInBounds_toArray, List.set_cons_zero, List.set_cons_succ, i64_w, i32_w]
            rfl
          refine pure_ (i := 3) (N := some 64) (v := ?_) (a' := ?_) #[true, true, true, true, false, false, false, false, false, false, false, false, false, false, false, false, false, false] rfl rfl (by kernel_rfl) (fun _ _ _ h => h) (Or.inl ⟨by rfl, ?_⟩) ?_ ?_
          rotate_left
          · intro w'
            go_simp
            with_reducible rfl
          rotate_left
          · simp only [Act.put, List.setIfInBounds_toArray, List.set_cons_zero, List.set_cons_succ, i64_w, i32_w]
            rfl
          refine pure_ (i := 4) (N := some 65) (v := ?_) (a' := ?_) #[true, true, true, true, true, false, false, false, false, false, false, false, false, false, false, false, false, false] rfl rfl (by kernel_rfl) (fun _ _ _ h => h) (Or.inl ⟨by rfl, ?_⟩) ?_ ?_
          rotate_left
          · intro w'
            go_simp
            with_reducible rfl
          rotate_left
          · simp only [Act.put, List.setIfInBounds_toArray, List.set_cons_zero, List.set_cons_succ, i64_w, i32_w]
            rfl
          refine pure_ (i := 5) (N := some 66) (v := ?_) (a' := ?_) #[true, true, true, true, true, true, false, false, false, false, false, false, false, false, false, false, false, false] rfl rfl (by kernel_rfl) (fun _ _ _ h => h) (Or.inl ⟨by rfl, ?_⟩) ?_ ?_
          rotate_left
          · intro w'
            go_simp
            with_reducible rfl
          rotate_left
          · simp only [Act.put, List.setIfInBounds_toArray, List.set_cons_zero, List.set_cons_succ, i64_w, i32_w]
            rfl
          refine pure_ (i := 6) (N := some 67) (v := ?_) (a' := ?_) #[true, true, true, true, true, true, true, false, false, false, false, false, false, false, false, false, false, false] rfl rfl (by kernel_rfl) (fun _ _ _ h => h) (Or.inl ⟨by rfl, ?_⟩) ?_ ?_
          rotate_left
          · intro w'
            go_simp
            with_reducible rfl
          rotate_left
          · simp only [Act.put, List.setIfInBounds_toArray, List.set_cons_zero, List.set_cons_succ, i64_w, i32_w]
            rfl
          refine pure_ (i := 7) (N := some 68) (v := ?_) (a' := ?_) #[true, true, true, true, true, true, true, true, false, false, false, false, false, false, false, false, false, false] rfl rfl (by kernel_rfl) (fun _ _ _ h => h) (Or.inl ⟨by rfl, ?_⟩) ?_ ?_
          rotate_left
          · intro w'
            go_simp
            with_reducible rfl
          rotate_left
          · simp only [Act.put, List.setIfInBounds_toArray, List.set_cons_zero, List.set_cons_succ, i64_w, i32_w]
            rfl
          refine pure_ (i := 8) (N := some 69) (v := ?_) (a' := ?_) #[true, true, true, true, true, true, true, true, true, false, false, false, false, false, false, false, false, false] rfl rfl (by kernel_rfl) (fun _ _ _ h => h) (Or.inl ⟨by rfl, ?_⟩) ?_ ?_
          rotate_left
          · intro w'
            go_simp
            with_reducible rfl
          rotate_left
          · simp only [Act.put, List.setIfInBounds_toArray, List.set_cons_zero, List.set_cons_succ, i64_w, i32_w]
            rfl
          refine pure_ (i := 10) (N := some 71) (v := ?_) (a' := ?_) #[true, true, true, true, true, true, true, true, true, false, true, false, false, false, false, false, false, false] rfl rfl (by kernel_rfl) (fun _ _ _ h => h) (Or.inl ⟨by rfl, ?_⟩) ?_ ?_
          rotate_left
          · intro w'
            go_simp
            with_reducible rfl
          rotate_left
          · simp only [Act.put, List.setIfInBounds_toArray, List.set_cons_zero, List.set_cons_succ, i64_w, i32_w]
            rfl
          refine pure_ (i := 11) (N := some 72) (v := ?_) (a' := ?_) #[true, true, true, true, true, true, true, true, true, false, true, true, false, false, false, false, false, false] rfl rfl (by kernel_rfl) (fun _ _ _ h => h) (Or.inl ⟨by rfl, ?_⟩) ?_ ?_
          rotate_left
          · intro w'
            go_simp
            with_reducible rfl
          rotate_left
          · simp only [Act.put, List.setIfInBounds_toArray, List.set_cons_zero, List.set_cons_succ, i64_w, i32_w]
            rfl
          refine pure_ (i := 12) (N := some 73) (v := ?_) (a' := ?_) #[true, true, true, true, true, true, true, true, true, false, true, true, true, false, false, false, false, false] rfl rfl (by kernel_rfl) (fun _ _ _ h => h) (Or.inl ⟨by rfl, ?_⟩) ?_ ?_
          rotate_left
          · intro w'
            go_simp
            with_reducible rfl
          rotate_left
          · simp only [Act.put, List.setIfInBounds_toArray, List.set_cons_zero, List.set_cons_succ, i64_w, i32_w]
            rfl
          refine take_ (i := 9) (N := some 70) (v := ?_) (a' := ?_) #[true, true, true, true, true, true, true, true, true, true, true, true, true, false, false, false, false, false] rfl rfl (by kernel_rfl) (fun _ _ _ h => h) (Or.inl ⟨by rfl, ?_⟩) hHeld ?_ ?_
          rotate_left
          · rintro w' ⟨s0, s1, s2, s3, s4, s5, s6, s7, s8, s9, s10, s11, s12, s13, s14, s15⟩
            go_simp
            with_reducible rfl
          rotate_left
          · simp only [Act.put, List.setIfInBounds_toArray, List.set_cons_zero, List.set_cons_succ, i64_w, i32_w]
            rfl
          refine take_ (i := 13) (N := some 74) (v := ?_) (a' := ?_) #[true, true, true, true, true, true, true, true, true, true, true, true, true, true, false, false, false, false] rfl rfl (by kernel_rfl) (fun _ _ _ h => h) (Or.inl ⟨by rfl, ?_⟩) hHeld ?_ ?_
          rotate_left
          · rintro w' ⟨s0, s1, s2, s3, s4, s5, s6, s7, s8, s9, s10, s11, s12, s13, s14, s15⟩
            go_simp
            with_reducible rfl
          rotate_left
          · simp only [Act.put, List.setIfInBounds_toArray, List.set_cons_zero, List.set_cons_succ, i64_w, i32_w]
            rfl
          refine pure_ (i := 14) (N := some 75) (v := ?_) (a' := ?_) #[true, true, true, true, true, true, true, true, true, true, true, true, true, true, true, false, false, false] rfl rfl (by kernel_rfl) (fun _ _ _ h => h) (Or.inl ⟨by rfl, ?_⟩) ?_ ?_
          rotate_left
          · intro w'
            go_simp
            with_reducible rfl
          rotate_left
          · simp only [Act.put, List.setIfInBounds_toArray, List.set_cons_zero, List.set_cons_succ, i64_w, i32_w]
            rfl
          refine last_ (i := 15) (N := none) #[true, true, true, true, true, true, true, true, true, true, true, true, true, true, true, true, false, false] rfl rfl (by kernel_rfl) (by decide) (fun K hK => ?_)
          refine skip_ (w1 := _) (by rfl) rfl (store_item (k := k) (y0, y1, y2, y3, y4, y5, y6, y7) rfl rfl rfl HAD.out HRd.out HX.out) ?_
          have hs1 := row_set (y0, y1, y2, y3, y4, y5, y6, y7) HRd.out HX.out
          have HR2 := Lib.hid hs1.1
          have HG2 := Lib.hid (grown_trans HGd.out hs1.2)
          clear hs1
          generalize W1.setCells g (k * 8) (cellsI (y0, y1, y2, y3, y4, y5, y6, y7)) = W2 at *
          refine hK.out _ _ ?_
          clear hK K
          refine pure_ (i := 16) (N := some 76) (v := ?_) (a' := ?_) #[true, true, true, true, true, true, true, true, true, true, true, true, true, true, true, true, true, false] rfl rfl (by kernel_rfl) (fun _ _ _ h => h) (Or.inl ⟨by rfl, ?_⟩) ?_ ?_
          rotate_left
          · intro w'
            go_simp
            with_reducible rfl
          rotate_left
          · simp only [Act.put, List.setIfInBounds_toArray, List.set_cons_zero, List.set_cons_succ, i64_w, i32_w]
            rfl
          refine last_ (i := 17) (N := none) #[true, true, true, true, true, true, true, true, true, true, true, true, true, true, true, true, true, true] rfl rfl (by kernel_rfl) (by decide) (fun K hK => ?_)
          refine skip_ (w1 := _) (by rfl) rfl (store_item (k := k1) (x0, x1, x2, x3, x4, x5, x6, x7) rfl rfl rfl HAD.out HR2.out HZ2.out) ?_
          have hs1 := row_set (x0, x1, x2, x3, x4, x5, x6, x7) HR2.out HZ2.out
          have HR3 := Lib.hid hs1.1
          have HG3 := Lib.hid (grown_trans HG2.out hs1.2)
          clear hs1
          generalize W2.setCells g (k1 * 8) (cellsI (x0, x1, x2, x3, x4, x5, x6, x7)) = W3 at *
          refine hK.out _ _ ?_
          clear hK K
          refine done_ (by kernel_rfl) ?_
          clear e0 e1 e2 e3 e4 e5 e6 e7 f0 f1 f2 f3 f4 f5 f6 f7
          have HR4 : Hid (Row W3 W0.heap.size g N c (p ++ (v1.take (t + 1) ++ (x0, x1, x2, x3, x4, x5, x6, x7) :: (v1.drop (t + 1) ++ (v2 ++ q))))) := Lib.hid (by rw [← HE.out]; exact HR3.out)
          clear HR HG HRd HGd HR2 HG2 HR3 HE HX HY HZ2 wk1
          go_wp2
          go_roundg (gk - 1)
          case measure => omega
          case rel => exact ⟨k + 1, t + 1, by go_num, Lib.hid (by have := HKT.out; omega), by omega, by omega, HR4, HG3⟩
        · have hkI : ¬ (k : Int) < (i : Int) - 1 := by have := HN1.out; have := HKT.out; omega
          have htn2 : t = n1 := by omega
          have HR4 : Hid (Row wr W0.heap.size g N c (p ++ ((v1 ++ (x0, x1, x2, x3, x4, x5, x6, x7) :: v2) ++ q))) := Lib.hid (by
            have h := HR.out
            rw [htn2, ← HVL.out, List.take_length, List.drop_length] at h
            simpa using h)
          clear HR
          go_wp2
          refine bodyPost_ret (results_none rfl _ _ _) rfl ?_
          exact ⟨rfl, ⟨_, HR4.out, HST.out⟩, HG.out⟩
end Go.Proofs.YtpjjooiamdfmfaaGreatDoor.SortMrgA
