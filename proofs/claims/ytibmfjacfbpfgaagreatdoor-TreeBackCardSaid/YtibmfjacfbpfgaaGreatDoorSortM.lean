/- sort: symMerge, where one stands ahead. -/
import Derived.Test.YtibmfjacfbpfgaaGreatDoorSortX
import Derived.Deep.Light
import Derived.Deep.DeepCutAuto
set_option linter.unusedVariables false
set_option linter.unusedSimpArgs false
namespace Go.Proofs.YtibmfjacfbpfgaaGreatDoor.SortMrgA
open Go.RowKit YtibmfjacfbpfgaaGreatDoorW.PrintWords YtibmfjacfbpfgaaGreatDoorW.PrintLast YtibmfjacfbpfgaaGreatDoorW.PrintMore YtibmfjacfbpfgaaGreatDoor.Item Own Stab SortLaw TreeLaw NameWalk SortSwap SortIns
theorem h_mid {i j h : Nat} (e : h = (i + j) / 2) : ((i : Int) + (j : Int)) / 2 = (h : Int) := by omega
theorem mid_in {i j h : Nat} (e : h = (i + j) / 2) (k : i < j) : i ≤ h ∧ h < j := by omega
/-- Where a search in a sorted row has come to its end. -/
theorem cutA {v : List It} {x : It} {i : Nat} (hs : Sorted ltI v) (hi : i ≤ v.length) (h1 : i = 0 ∨ ∃ y, v[i - 1]? = some y ∧ ltI y x = true) (h2 : i = v.length ∨ ∃ y, v[i]? = some y ∧ ltI y x = false) : Stb ltI (x :: v) (v.take i ++ x :: v.drop i) := by
 have := lead_done swoI (v1 := v.take i) (v2 := v.drop i) (x := x) (by rw [List.take_append_drop]; exact hs) ?_ ?_
 ·
  rw [List.take_append_drop] at this; exact this
 ·
  intro y hy
  rcases h1 with e | ⟨z, hz, hl⟩
  ·
   subst e; simp at hy
  ·
   by_cases h0 : i = 0
   ·
    subst h0; simp at hy
   ·
    rw [List.getLast?_eq_getElem?, List.length_take, Nat.min_eq_left hi, List.getElem?_take_of_lt (by omega), hz] at hy
    injection hy with hy
    rw [← hy]; exact hl
 ·
  intro y hy
  rw [List.head?_drop] at hy
  rcases h2 with e | ⟨z, hz, hl⟩
  ·
   subst e; simp at hy
  ·
   rw [hz] at hy
   injection hy with hy
   rw [← hy]; exact hl
theorem cutB {u : List It} {y : It} {i : Nat} (hs : Sorted ltI u) (hi : i ≤ u.length) (h1 : i = 0 ∨ ∃ x, u[i - 1]? = some x ∧ ltI y x = false) (h2 : i = u.length ∨ ∃ x, u[i]? = some x ∧ ltI y x = true) : Stb ltI (u ++ [y]) (u.take i ++ y :: u.drop i) := by
 have := tail_done swoI (u1 := u.take i) (u2 := u.drop i) (y := y) (by rw [List.take_append_drop]; exact hs) ?_ ?_
 ·
  rw [List.take_append_drop] at this; exact this
 ·
  intro x hx
  rcases h1 with e | ⟨z, hz, hl⟩
  ·
   subst e; simp at hx
  ·
   by_cases h0 : i = 0
   ·
    subst h0; simp at hx
   ·
    rw [List.getLast?_eq_getElem?, List.length_take, Nat.min_eq_left hi, List.getElem?_take_of_lt (by omega), hz] at hx
    injection hx with hx
    rw [← hx]; exact hl
 ·
  intro x hx
  rw [List.head?_drop] at hx
  rcases h2 with e | ⟨z, hz, hl⟩
  ·
   subst e; simp at hx
  ·
   rw [hz] at hx
   injection hx with hx
   rw [← hx]; exact hl
theorem in_mid {p v q : List It} {x : It} {k : Nat} (h : k < v.length) : (p ++ x :: (v ++ q))[p.length + 1 + k]? = v[k]? := by
 rw [List.getElem?_append_right (by omega), show p.length + 1 + k - p.length = k + 1 by omega, List.getElem?_cons_succ, List.getElem?_append_left h]
theorem in_left {p u q : List It} {k : Nat} (h : k < u.length) : (p ++ (u ++ q))[p.length + k]? = u[k]? := by
 rw [List.getElem?_append_right (by omega), show p.length + k - p.length = k by omega, List.getElem?_append_left h]
set_option maxHeartbeats 8000000 in
set_option maxRecDepth 100000 in
theorem mergeA (W0 : World) (hgl : Glob W0) (g N c a m b : Nat) (p v q : List It) (x0 : ByteArray) (x1 x2 x3 x4 x5 x6 : Int) (x7 : ByteArray) (W : World) (hN : N ≤ 1000000) (ha : a = p.length) (hm : m = a + 1) (hb : b = m + v.length) (hs : Sorted ltI v) (hx : x0.size < 4294967281) (hsz : Short v) (hB : Below W0.heap.size W0 W) (h : Row W W0.heap.size g N c (p ++ (x0, x1, x2, x3, x4, x5, x6, x7) :: (v ++ q))) :
  Calls Tryz.prog 158 #[.slice (some ⟨g, 0, none⟩) N c, .int .i64 a, .int .i64 m, .int .i64 b, .func (.func 110) #[] #[]] W fun e w' => e = .returned (.tuple #[]) ∧ (∃ s, Row w' W0.heap.size g N c (p ++ (s ++ q)) ∧ Stb ltI ((x0, x1, x2, x3, x4, x5, x6, x7) :: v) s) ∧ W.grownBy w' (some g) := by
 obtain ⟨ad, had⟩ : ∃ ad : Addr, ad = ⟨g, 0, none⟩ := ⟨_, rfl⟩
 rw [← had]
 have HAD := Lib.hid had
 have HGL := Lib.hid hgl
 have HB := Lib.hid hB
 have HNG := Lib.hid h.base
 have HR0 := Lib.hid h
 have HGO := Lib.hid (grown_refl W (some g))
 have hlen := h.1
 simp only [List.length_append, List.length_cons] at hlen
 have HSX := Lib.hid hx
 have HSZ := Lib.hid hsz
 have HS := Lib.hid hs
 have HA := Lib.hid ha
 have hbN : b ≤ N := by omega
 obtain ⟨L, hL⟩ : ∃ L, L = p ++ (x0, x1, x2, x3, x4, x5, x6, x7) :: (v ++ q) := ⟨_, rfl⟩
 rw [← hL] at HR0
 have HL := Lib.hid hL
 have HLX : Hid (L[a]? = some (x0, x1, x2, x3, x4, x5, x6, x7)) := Lib.hid (at_mid' hL ha)
 have HAT : Hid (∀ k, k < v.length → L[m + k]? = v[k]?) := Lib.hid (fun k hk => by rw [hL, hm, ha]; exact in_mid hk)
 have haN : a < N := by omega
 have HMB := Lib.hid (show m ≤ b ∧ b - m = v.length ∧ m = a + 1 by omega)
 have hmb : m ≤ b := by omega
 have q0 : ((m : Int) - (a : Int) == 1) = true := beq_iff_eq.2 (by omega)
 have ham : (a : Int) ≤ m := by omega
 have qa : (a : Int) < (N : Int) := i_lt haN
 obtain ⟨F, hF⟩ : ∃ F, F = b := ⟨_, rfl⟩
 have hFb : b ≤ m + F := by omega
 clear had hgl hB h hsz ha hb hs hx hlen hF hL hm
 go_enter Tryz.func158, Tryz.ntmps158
 go_wp2
 go_loopg [10, 11, 12] F (fun gg vi vj vh wr => ∃ i j : Nat, vi = .int .i64 i ∧ vj = .int .i64 j ∧ m ≤ i ∧ i ≤ j ∧ j ≤ b ∧ j ≤ i + gg ∧ Hid ((i = m ∨ ∃ y, v[i - m - 1]? = some y ∧ ltI y (x0, x1, x2, x3, x4, x5, x6, x7) = true) ∧ (j = b ∨ ∃ y, v[j - m]? = some y ∧ ltI y (x0, x1, x2, x3, x4, x5, x6, x7) = false)) ∧ Hid (Row wr W0.heap.size g N c L) ∧ Hid (W.grownBy wr (some g)))
 case atStart => exact ⟨m, b, rfl, rfl, Nat.le_refl _, hmb, Nat.le_refl _, hFb, Lib.hid ⟨.inl rfl, .inl rfl⟩, HR0, HGO⟩
 case round =>
  clear HR0 HGO hFb
  obtain ⟨i, j, rfl, rfl, hmi, hij, hjb, hjg, HI, HR, HG⟩ := hrel
  by_cases hlt : i < j
  ·
   have hltI : (i : Int) < (j : Int) := i_lt hlt
   obtain ⟨hh, hh2⟩ : ∃ h, h = (i + j) / 2 := ⟨_, rfl⟩
   have hhI := h_mid hh2
   have hhij := mid_in hh2 hlt
   have hhv : hh - m < v.length := by have := HMB.out; omega
   obtain ⟨y, hy⟩ : ∃ y, v[hh - m]? = some y := ⟨_, List.getElem?_eq_getElem hhv⟩
   have hLy : L[hh]? = some y := by have := HAT.out (hh - m) hhv; rw [show m + (hh - m) = hh by omega] at this; rw [this, hy]
   obtain ⟨y0, y1, y2, y3, y4, y5, y6, y7⟩ := y
   have HX := Lib.hid hLy
   have HYV := Lib.hid hy
   have HSY : Hid (y0.size < 4294967281) := Lib.hid (HSZ.out (y0, y1, y2, y3, y4, y5, y6, y7) (List.mem_of_getElem? hy))
   have HLT : Hid (ltI (y0, y1, y2, y3, y4, y5, y6, y7) (x0, x1, x2, x3, x4, x5, x6, x7) = decide (orderT y0 x0 < 0)) := Lib.hid rfl
   have qh : (hh : Int) < (N : Int) := i_lt (by omega)
   clear hh2 hhv hy hLy
   obtain ⟨e0, e1, e2, e3, e4, e5, e6, e7⟩ := row_load HR.out HAD.out HX.out
   obtain ⟨f0, f1, f2, f3, f4, f5, f6, f7⟩ := row_load HR.out HAD.out HLX.out
   simp only at e0 e1 e2 e3 e4 e5 e6 e7 f0 f1 f2 f3 f4 f5 f6 f7
   go_wp2_with fail
   refine start_ (n := 11) (S := fun w' => w'.cell? (ad.add (hh * 8)) = some (.string y0) ∧ w'.cell? ⟨(ad.add (hh * 8)).block, (ad.add (hh * 8)).off + 1, none⟩ = some (.int .i64 y1) ∧ w'.cell? ⟨(ad.add (hh * 8)).block, (ad.add (hh * 8)).off + 2, none⟩ = some (.int .u32 y2) ∧ w'.cell? ⟨(ad.add (hh * 8)).block, (ad.add (hh * 8)).off + 3, none⟩ = some (.int .u32 y3) ∧ w'.cell? ⟨(ad.add (hh * 8)).block, (ad.add (hh * 8)).off + 4, none⟩ = some (.int .u32 y4) ∧ w'.cell? ⟨(ad.add (hh * 8)).block, (ad.add (hh * 8)).off + 5, none⟩ = some (.int .i64 y5) ∧ w'.cell? ⟨(ad.add (hh * 8)).block, (ad.add (hh * 8)).off + 6, none⟩ = some (.int .i64 y6) ∧ w'.cell? ⟨(ad.add (hh * 8)).block, (ad.add (hh * 8)).off + 7, none⟩ = some (.string y7) ∧ w'.cell? (ad.add (a * 8)) = some (.string x0) ∧ w'.cell? ⟨(ad.add (a * 8)).block, (ad.add (a * 8)).off + 1, none⟩ = some (.int .i64 x1) ∧ w'.cell? ⟨(ad.add (a * 8)).block, (ad.add (a * 8)).off + 2, none⟩ = some (.int .u32 x2) ∧ w'.cell? ⟨(ad.add (a * 8)).block, (ad.add (a * 8)).off + 3, none⟩ = some (.int .u32 x3) ∧ w'.cell? ⟨(ad.add (a * 8)).block, (ad.add (a * 8)).off + 4, none⟩ = some (.int .u32 x4) ∧ w'.cell? ⟨(ad.add (a * 8)).block, (ad.add (a * 8)).off + 5, none⟩ = some (.int .i64 x5) ∧ w'.cell? ⟨(ad.add (a * 8)).block, (ad.add (a * 8)).off + 6, none⟩ = some (.int .i64 x6) ∧ w'.cell? ⟨(ad.add (a * 8)).block, (ad.add (a * 8)).off + 7, none⟩ = some (.string x7)) (ds := [9]) #[false, false, false, false, false, false, false, false, false, false, false] (by kernel_rfl) rfl rfl ⟨e0, e1, e2, e3, e4, e5, e6, e7, f0, f1, f2, f3, f4, f5, f6, f7⟩ (fun hHeld => ?_)
   have HRd := Lib.hid (Row.below HR.out (below_drew (Below.refl wr.heap.size wr)))
   have HGd := Lib.hid (grown_drew HG.out)
   generalize wr.drew = W1 at *
   refine pure_ (i := 0) (N := some 40) (v := ?_) (a' := ?_) #[true, false, false, false, false, false, false, false, false, false, false] rfl rfl (by kernel_rfl) (fun _ _ _ h => h) (Or.inl ⟨by rfl, ?_⟩) ?_ ?_
   rotate_left
   ·
    intro w'
    go_simp
    with_reducible rfl
   rotate_left
   ·
    simp only [Act.put, Own.na, Own.nz, Own.ns, i64_w, i32_w]
    rfl
   refine pure_ (i := 1) (N := some 41) (v := ?_) (a' := ?_) #[true, true, false, false, false, false, false, false, false, false, false] rfl rfl (by kernel_rfl) (fun _ _ _ h => h) (Or.inl ⟨by rfl, ?_⟩) ?_ ?_
   rotate_left
   ·
    intro w'
    go_simp
    with_reducible rfl
   rotate_left
   ·
    simp only [Act.put, Own.na, Own.nz, Own.ns, i64_w, i32_w]
    rfl
   refine pure_ (i := 2) (N := some 42) (v := ?_) (a' := ?_) #[true, true, true, false, false, false, false, false, false, false, false] rfl rfl (by kernel_rfl) (fun _ _ _ h => h) (Or.inl ⟨by rfl, ?_⟩) ?_ ?_
   rotate_left
   ·
    intro w'
    go_simp
    with_reducible rfl
   rotate_left
   ·
    simp only [Act.put, Own.na, Own.nz, Own.ns, i64_w, i32_w]
    rfl
   refine pure_ (i := 3) (N := some 43) (v := ?_) (a' := ?_) #[true, true, true, true, false, false, false, false, false, false, false] rfl rfl (by kernel_rfl) (fun _ _ _ h => h) (Or.inl ⟨by rfl, ?_⟩) ?_ ?_
   rotate_left
   ·
    intro w'
    go_simp
    with_reducible rfl
   rotate_left
   ·
    simp only [Act.put, Own.na, Own.nz, Own.ns, i64_w, i32_w]
    rfl
   refine pure_ (i := 5) (N := some 45) (v := ?_) (a' := ?_) #[true, true, true, true, false, true, false, false, false, false, false] rfl rfl (by kernel_rfl) (fun _ _ _ h => h) (Or.inl ⟨by rfl, ?_⟩) ?_ ?_
   rotate_left
   ·
    intro w'
    go_simp
    with_reducible rfl
   rotate_left
   ·
    simp only [Act.put, Own.na, Own.nz, Own.ns, i64_w, i32_w]
    rfl
   refine pure_ (i := 6) (N := some 46) (v := ?_) (a' := ?_) #[true, true, true, true, false, true, true, false, false, false, false] rfl rfl (by kernel_rfl) (fun _ _ _ h => h) (Or.inl ⟨by rfl, ?_⟩) ?_ ?_
   rotate_left
   ·
    intro w'
    go_simp
    with_reducible rfl
   rotate_left
   ·
    simp only [Act.put, Own.na, Own.nz, Own.ns, i64_w, i32_w]
    rfl
   refine pure_ (i := 7) (N := some 47) (v := ?_) (a' := ?_) #[true, true, true, true, false, true, true, true, false, false, false] rfl rfl (by kernel_rfl) (fun _ _ _ h => h) (Or.inl ⟨by rfl, ?_⟩) ?_ ?_
   rotate_left
   ·
    intro w'
    go_simp
    with_reducible rfl
   rotate_left
   ·
    simp only [Act.put, Own.na, Own.nz, Own.ns, i64_w, i32_w]
    rfl
   refine take_ (i := 4) (N := some 44) (v := ?_) (a' := ?_) #[true, true, true, true, true, true, true, true, false, false, false] rfl rfl (by kernel_rfl) (fun _ _ _ h => h) (Or.inl ⟨by rfl, ?_⟩) hHeld ?_ ?_
   rotate_left
   ·
    rintro w' ⟨s0, s1, s2, s3, s4, s5, s6, s7, s8, s9, s10, s11, s12, s13, s14, s15⟩
    go_simp
    with_reducible rfl
   rotate_left
   ·
    simp only [Act.put, Own.na, Own.nz, Own.ns, i64_w, i32_w]
    rfl
   refine take_ (i := 8) (N := some 48) (v := ?_) (a' := ?_) #[true, true, true, true, true, true, true, true, true, false, false] rfl rfl (by kernel_rfl) (fun _ _ _ h => h) (Or.inl ⟨by rfl, ?_⟩) hHeld ?_ ?_
   rotate_left
   ·
    rintro w' ⟨s0, s1, s2, s3, s4, s5, s6, s7, s8, s9, s10, s11, s12, s13, s14, s15⟩
    go_simp
    with_reducible rfl
   rotate_left
   ·
    simp only [Act.put, Own.na, Own.nz, Own.ns, i64_w, i32_w]
    rfl
   refine last_ (i := 9) (N := some 49) #[true, true, true, true, true, true, true, true, true, true, false] rfl rfl (by kernel_rfl) (by decide) (fun K hK => ?_)
   refine goesC_ (x := 40) (fn := Tryz.f110) (f := 110) Tryz.func110 (by kernel_rfl) rfl #[.agg #[.string y0, .int .i64 y1, .int .u32 y2, .int .u32 y3, .int .u32 y4, .int .i64 y5, .int .i64 y6, .string y7], .agg #[.string x0, .int .i64 x1, .int .u32 x2, .int .u32 x3, .int .u32 x4, .int .i64 x5, .int .i64 x6, .string x7]] (by rfl) rfl rfl rfl (by simp only [List.map_toArray, List.map_cons, List.map_nil]; rfl) ?_
   with_reducible refine (cmp_any y0 y1 y2 y3 y4 y5 y6 y7 x0 x1 x2 x3 x4 x5 x6 x7 W1 (HGL.out.below (below_row HB.out HGd.out HNG.out)) HSY.out HSX.out).mono ?_
   rintro e W4 ⟨rfl, hbc⟩
   have HRc := Lib.hid (HRd.out.below hbc)
   have HGc := Lib.hid (grown_below HGd.out hbc)
   clear hbc
   refine ⟨_, rfl, ?_⟩
   generalize orderT y0 x0 = rr at *
   refine hK.out _ _ ?_
   clear hK K
   refine norm_ (a' := ?_) ?_ ?_
   rotate_left
   ·
    show Act.put _ (some 49) _ = _
    simp only [Act.put, Own.na, Own.nz, Own.ns, i64_w, i32_w]
    rfl
   refine pure_ (i := 10) (N := some 50) (v := ?_) (a' := ?_) #[true, true, true, true, true, true, true, true, true, true, true] rfl rfl (by kernel_rfl) (fun _ _ _ h => h) (Or.inl ⟨by rfl, ?_⟩) ?_ ?_
   rotate_left
   ·
    intro w'
    go_simp
    with_reducible rfl
   rotate_left
   ·
    simp only [Act.put, Own.na, Own.nz, Own.ns, i64_w, i32_w]
    rfl
   refine done_ (by kernel_rfl) ?_
   clear e0 e1 e2 e3 e4 e5 e6 e7 f0 f1 f2 f3 f4 f5 f6 f7
   clear HR HRd HG HGd
   by_cases hr : rr < 0
   ·
    have q1 : decide (rr < 0) = true := decide_eq_true hr
    have HI2 : Hid ((hh + 1 = m ∨ ∃ y, v[hh + 1 - m - 1]? = some y ∧ ltI y (x0, x1, x2, x3, x4, x5, x6, x7) = true) ∧ (j = b ∨ ∃ y, v[j - m]? = some y ∧ ltI y (x0, x1, x2, x3, x4, x5, x6, x7) = false)) := Lib.hid ⟨.inr ⟨(y0, y1, y2, y3, y4, y5, y6, y7), by rw [show hh + 1 - m - 1 = hh - m by omega]; exact HYV.out, by rw [HLT.out]; exact q1⟩, HI.out.2⟩
    clear HI HX HYV HSY HLT
    go_wp2
    go_roundg (gk - 1)
    case measure => omega
    case rel => exact ⟨hh + 1, j, by go_num, rfl, by omega, by omega, hjb, by omega, HI2, HRc, HGc⟩
   ·
    have q1 : decide (rr < 0) = false := decide_eq_false hr
    have HI2 : Hid ((i = m ∨ ∃ y, v[i - m - 1]? = some y ∧ ltI y (x0, x1, x2, x3, x4, x5, x6, x7) = true) ∧ (hh = b ∨ ∃ y, v[hh - m]? = some y ∧ ltI y (x0, x1, x2, x3, x4, x5, x6, x7) = false)) := Lib.hid ⟨HI.out.1, .inr ⟨(y0, y1, y2, y3, y4, y5, y6, y7), HYV.out, by rw [HLT.out]; exact q1⟩⟩
    clear HI HX HYV HSY HLT
    go_wp2
    go_roundg (gk - 1)
    case measure => omega
    case rel => exact ⟨i, hh, rfl, rfl, hmi, by omega, by omega, by omega, HI2, HRc, HGc⟩
  ·
   have hltI : ¬ (i : Int) < (j : Int) := by omega
   have hji : i = j := by omega
   subst hji
   obtain ⟨n1, hn1⟩ : ∃ n1, n1 = i - m := ⟨_, rfl⟩
   have hnv : n1 ≤ v.length := by have := HMB.out; omega
   have HST : Hid (Stb ltI ((x0, x1, x2, x3, x4, x5, x6, x7) :: v) (v.take n1 ++ (x0, x1, x2, x3, x4, x5, x6, x7) :: v.drop n1)) := Lib.hid (by
    have hi := HI.out
    have hmb2 := HMB.out
    refine cutA HS.out hnv ?_ ?_
    ·
     rcases hi.1 with e | e
     ·
      exact .inl (by omega)
     ·
      exact .inr (by rw [hn1]; exact e)
    ·
     rcases hi.2 with e | e
     ·
      exact .inl (by omega)
     ·
      exact .inr (by rw [hn1]; exact e))
   have HRS : Hid (Row wr W0.heap.size g N c (p ++ ((v.take n1).take 0 ++ (x0, x1, x2, x3, x4, x5, x6, x7) :: ((v.take n1).drop 0 ++ (v.drop n1 ++ q))))) := Lib.hid (by
    have h := HR.out
    rw [HL.out] at h
    rw [List.take_zero, List.drop_zero, List.nil_append, ← List.append_assoc (v.take n1), List.take_append_drop]
    exact h)
   have HN1 := Lib.hid (show i = a + 1 + n1 by have := HMB.out; omega)
   obtain ⟨v1, hv1⟩ : ∃ v1, v1 = v.take n1 := ⟨_, rfl⟩
   obtain ⟨v2, hv2⟩ : ∃ v2, v2 = v.drop n1 := ⟨_, rfl⟩
   rw [← hv1, ← hv2] at HST HRS
   have hvl : v1.length = n1 := by rw [hv1, List.length_take]; omega
   have HVL := Lib.hid hvl
   obtain ⟨F2, hF2⟩ : ∃ F2, F2 = n1 := ⟨_, rfl⟩
   have hF2n : n1 ≤ 0 + F2 := by omega
   have hnN : a + n1 < N := by have := HMB.out; omega
   clear hn1 hv1 hv2 hvl HI HR hF2
   go_wp2
   go_loopg [13] F2 (fun gg vk wr => ∃ k t : Nat, vk = .int .i64 k ∧ Hid (k = a + t) ∧ t ≤ n1 ∧ n1 ≤ t + gg ∧ Hid (Row wr W0.heap.size g N c (p ++ (v1.take t ++ (x0, x1, x2, x3, x4, x5, x6, x7) :: (v1.drop t ++ (v2 ++ q))))) ∧ Hid (W.grownBy wr (some g)))
   case atStart => exact ⟨a, 0, rfl, Lib.hid rfl, Nat.zero_le _, hF2n, HRS, HG⟩
   case round =>
    clear HRS HG hF2n
    obtain ⟨k, t, rfl, HKT, htn, hng, HR, HG⟩ := hrel
    by_cases htl : t < n1
    ·
     have hkI : (k : Int) < (i : Int) - 1 := by have := HN1.out; have := HKT.out; omega
     obtain ⟨k1, hk1⟩ : ∃ k1, k1 = k + 1 := ⟨_, rfl⟩
     have hk1I : (k : Int) + 1 = (k1 : Int) := by omega
     have qk : (k : Int) < (N : Int) := i_lt (by have := HKT.out; omega)
     have qk1 : (k1 : Int) < (N : Int) := i_lt (by have := HKT.out; omega)
     obtain ⟨y, v3, hv3⟩ : ∃ y v3, v1.drop t = y :: v3 := ⟨_, _, List.drop_eq_getElem_cons (by rw [HVL.out]; exact htl)⟩
     have hv4 : v1.drop (t + 1) = v3 := by
      have e := List.drop_eq_getElem_cons (show t < v1.length by rw [HVL.out]; exact htl)
      rw [hv3] at e
      injection e with _ e2
      exact e2.symm
     have hv5 : v1.take (t + 1) = v1.take t ++ [y] := by
      have hlt2 : t < v1.length := by rw [HVL.out]; exact htl
      rw [← List.take_append_getElem hlt2]
      rw [List.drop_eq_getElem_cons hlt2] at hv3
      injection hv3 with h1 h2
      rw [h1]
     obtain ⟨y0, y1, y2, y3, y4, y5, y6, y7⟩ := y
     obtain ⟨M, hM⟩ : ∃ M, M = p ++ (v1.take t ++ (x0, x1, x2, x3, x4, x5, x6, x7) :: (v1.drop t ++ (v2 ++ q))) := ⟨_, rfl⟩
     have hsw := swap_mid' (l := M) (p := p ++ v1.take t) (m := []) (q := v3 ++ (v2 ++ q)) (x := (x0, x1, x2, x3, x4, x5, x6, x7)) (y := (y0, y1, y2, y3, y4, y5, y6, y7)) (i := k) (j := k1) (by rw [hM, hv3]; simp only [List.append_assoc, List.cons_append, List.nil_append]) (by rw [List.length_append, List.length_take, HVL.out, ← HA.out]; have := HKT.out; omega) (by simp only [List.length_nil]; omega)
     rw [← hM] at HR
     have HX := Lib.hid hsw.1
     have HY := Lib.hid hsw.2.1
     have HE : Hid ((M.set k (y0, y1, y2, y3, y4, y5, y6, y7)).set k1 (x0, x1, x2, x3, x4, x5, x6, x7) = p ++ (v1.take (t + 1) ++ (x0, x1, x2, x3, x4, x5, x6, x7) :: (v1.drop (t + 1) ++ (v2 ++ q)))) := Lib.hid (by
      have e := hsw.2.2.1
      unfold swapL at e
      rw [e, hv4, hv5]
      simp)
     have hne : k ≠ k1 := by omega
     have HZ2 : Hid ((M.set k (y0, y1, y2, y3, y4, y5, y6, y7))[k1]? = some (y0, y1, y2, y3, y4, y5, y6, y7)) := Lib.hid (by rw [List.getElem?_set_ne hne]; exact hsw.2.1)
     have wk1 : Go.RowKit.wrap64 (k1 : Int) = (k1 : Int) := w_le (N := N) (by have := HKT.out; omega) hN
     clear hsw hM hv3 hv4 hv5 hne hk1
     obtain ⟨e0, e1, e2, e3, e4, e5, e6, e7⟩ := row_load HR.out HAD.out HX.out
     obtain ⟨f0, f1, f2, f3, f4, f5, f6, f7⟩ := row_load HR.out HAD.out HY.out
     simp only at e0 e1 e2 e3 e4 e5 e6 e7 f0 f1 f2 f3 f4 f5 f6 f7
     go_wp2_with fail
     refine start_ (n := 18) (S := fun w' => w'.cell? (ad.add (k * 8)) = some (.string x0) ∧ w'.cell? ⟨(ad.add (k * 8)).block, (ad.add (k * 8)).off + 1, none⟩ = some (.int .i64 x1) ∧ w'.cell? ⟨(ad.add (k * 8)).block, (ad.add (k * 8)).off + 2, none⟩ = some (.int .u32 x2) ∧ w'.cell? ⟨(ad.add (k * 8)).block, (ad.add (k * 8)).off + 3, none⟩ = some (.int .u32 x3) ∧ w'.cell? ⟨(ad.add (k * 8)).block, (ad.add (k * 8)).off + 4, none⟩ = some (.int .u32 x4) ∧ w'.cell? ⟨(ad.add (k * 8)).block, (ad.add (k * 8)).off + 5, none⟩ = some (.int .i64 x5) ∧ w'.cell? ⟨(ad.add (k * 8)).block, (ad.add (k * 8)).off + 6, none⟩ = some (.int .i64 x6) ∧ w'.cell? ⟨(ad.add (k * 8)).block, (ad.add (k * 8)).off + 7, none⟩ = some (.string x7) ∧ w'.cell? (ad.add (k1 * 8)) = some (.string y0) ∧ w'.cell? ⟨(ad.add (k1 * 8)).block, (ad.add (k1 * 8)).off + 1, none⟩ = some (.int .i64 y1) ∧ w'.cell? ⟨(ad.add (k1 * 8)).block, (ad.add (k1 * 8)).off + 2, none⟩ = some (.int .u32 y2) ∧ w'.cell? ⟨(ad.add (k1 * 8)).block, (ad.add (k1 * 8)).off + 3, none⟩ = some (.int .u32 y3) ∧ w'.cell? ⟨(ad.add (k1 * 8)).block, (ad.add (k1 * 8)).off + 4, none⟩ = some (.int .u32 y4) ∧ w'.cell? ⟨(ad.add (k1 * 8)).block, (ad.add (k1 * 8)).off + 5, none⟩ = some (.int .i64 y5) ∧ w'.cell? ⟨(ad.add (k1 * 8)).block, (ad.add (k1 * 8)).off + 6, none⟩ = some (.int .i64 y6) ∧ w'.cell? ⟨(ad.add (k1 * 8)).block, (ad.add (k1 * 8)).off + 7, none⟩ = some (.string y7)) (ds := [15, 17]) #[false, false, false, false, false, false, false, false, false, false, false, false, false, false, false, false, false, false] (by kernel_rfl) rfl rfl ⟨e0, e1, e2, e3, e4, e5, e6, e7, f0, f1, f2, f3, f4, f5, f6, f7⟩ (fun hHeld => ?_)
     have HRd := Lib.hid (Row.below HR.out (below_drew (Below.refl wr.heap.size wr)))
     have HGd := Lib.hid (grown_drew HG.out)
     generalize wr.drew = W1 at *
     refine pure_ (i := 0) (N := some 61) (v := ?_) (a' := ?_) #[true, false, false, false, false, false, false, false, false, false, false, false, false, false, false, false, false, false] rfl rfl (by kernel_rfl) (fun _ _ _ h => h) (Or.inl ⟨by rfl, ?_⟩) ?_ ?_
     rotate_left
     ·
      intro w'
      go_simp
      with_reducible rfl
     rotate_left
     ·
      simp only [Act.put, Own.na, Own.nz, Own.ns, i64_w, i32_w]
      rfl
     refine pure_ (i := 1) (N := some 62) (v := ?_) (a' := ?_) #[true, true, false, false, false, false, false, false, false, false, false, false, false, false, false, false, false, false] rfl rfl (by kernel_rfl) (fun _ _ _ h => h) (Or.inl ⟨by rfl, ?_⟩) ?_ ?_
     rotate_left
     ·
      intro w'
      go_simp
      with_reducible rfl
     rotate_left
     ·
      simp only [Act.put, Own.na, Own.nz, Own.ns, i64_w, i32_w]
      rfl
     refine pure_ (i := 2) (N := some 63) (v := ?_) (a' := ?_) #[true, true, true, false, false, false, false, false, false, false, false, false, false, false, false, false, false, false] rfl rfl (by kernel_rfl) (fun _ _ _ h => h) (Or.inl ⟨by rfl, ?_⟩) ?_ ?_
     rotate_left
     ·
      intro w'
      go_simp
      with_reducible rfl
     rotate_left
     ·
      simp only [Act.put, Own.na, Own.nz, Own.ns, i64_w, i32_w]
      rfl
     refine pure_ (i := 3) (N := some 64) (v := ?_) (a' := ?_) #[true, true, true, true, false, false, false, false, false, false, false, false, false, false, false, false, false, false] rfl rfl (by kernel_rfl) (fun _ _ _ h => h) (Or.inl ⟨by rfl, ?_⟩) ?_ ?_
     rotate_left
     ·
      intro w'
      go_simp
      with_reducible rfl
     rotate_left
     ·
      simp only [Act.put, Own.na, Own.nz, Own.ns, i64_w, i32_w]
      rfl
     refine pure_ (i := 4) (N := some 65) (v := ?_) (a' := ?_) #[true, true, true, true, true, false, false, false, false, false, false, false, false, false, false, false, false, false] rfl rfl (by kernel_rfl) (fun _ _ _ h => h) (Or.inl ⟨by rfl, ?_⟩) ?_ ?_
     rotate_left
     ·
      intro w'
      go_simp
      with_reducible rfl
     rotate_left
     ·
      simp only [Act.put, Own.na, Own.nz, Own.ns, i64_w, i32_w]
      rfl
     refine pure_ (i := 5) (N := some 66) (v := ?_) (a' := ?_) #[true, true, true, true, true, true, false, false, false, false, false, false, false, false, false, false, false, false] rfl rfl (by kernel_rfl) (fun _ _ _ h => h) (Or.inl ⟨by rfl, ?_⟩) ?_ ?_
     rotate_left
     ·
      intro w'
      go_simp
      with_reducible rfl
     rotate_left
     ·
      simp only [Act.put, Own.na, Own.nz, Own.ns, i64_w, i32_w]
      rfl
     refine pure_ (i := 6) (N := some 67) (v := ?_) (a' := ?_) #[true, true, true, true, true, true, true, false, false, false, false, false, false, false, false, false, false, false] rfl rfl (by kernel_rfl) (fun _ _ _ h => h) (Or.inl ⟨by rfl, ?_⟩) ?_ ?_
     rotate_left
     ·
      intro w'
      go_simp
      with_reducible rfl
     rotate_left
     ·
      simp only [Act.put, Own.na, Own.nz, Own.ns, i64_w, i32_w]
      rfl
     refine pure_ (i := 7) (N := some 68) (v := ?_) (a' := ?_) #[true, true, true, true, true, true, true, true, false, false, false, false, false, false, false, false, false, false] rfl rfl (by kernel_rfl) (fun _ _ _ h => h) (Or.inl ⟨by rfl, ?_⟩) ?_ ?_
     rotate_left
     ·
      intro w'
      go_simp
      with_reducible rfl
     rotate_left
     ·
      simp only [Act.put, Own.na, Own.nz, Own.ns, i64_w, i32_w]
      rfl
     refine pure_ (i := 8) (N := some 69) (v := ?_) (a' := ?_) #[true, true, true, true, true, true, true, true, true, false, false, false, false, false, false, false, false, false] rfl rfl (by kernel_rfl) (fun _ _ _ h => h) (Or.inl ⟨by rfl, ?_⟩) ?_ ?_
     rotate_left
     ·
      intro w'
      go_simp
      with_reducible rfl
     rotate_left
     ·
      simp only [Act.put, Own.na, Own.nz, Own.ns, i64_w, i32_w]
      rfl
     refine pure_ (i := 10) (N := some 71) (v := ?_) (a' := ?_) #[true, true, true, true, true, true, true, true, true, false, true, false, false, false, false, false, false, false] rfl rfl (by kernel_rfl) (fun _ _ _ h => h) (Or.inl ⟨by rfl, ?_⟩) ?_ ?_
     rotate_left
     ·
      intro w'
      go_simp
      with_reducible rfl
     rotate_left
     ·
      simp only [Act.put, Own.na, Own.nz, Own.ns, i64_w, i32_w]
      rfl
     refine pure_ (i := 11) (N := some 72) (v := ?_) (a' := ?_) #[true, true, true, true, true, true, true, true, true, false, true, true, false, false, false, false, false, false] rfl rfl (by kernel_rfl) (fun _ _ _ h => h) (Or.inl ⟨by rfl, ?_⟩) ?_ ?_
     rotate_left
     ·
      intro w'
      go_simp
      with_reducible rfl
     rotate_left
     ·
      simp only [Act.put, Own.na, Own.nz, Own.ns, i64_w, i32_w]
      rfl
     refine pure_ (i := 12) (N := some 73) (v := ?_) (a' := ?_) #[true, true, true, true, true, true, true, true, true, false, true, true, true, false, false, false, false, false] rfl rfl (by kernel_rfl) (fun _ _ _ h => h) (Or.inl ⟨by rfl, ?_⟩) ?_ ?_
     rotate_left
     ·
      intro w'
      go_simp
      with_reducible rfl
     rotate_left
     ·
      simp only [Act.put, Own.na, Own.nz, Own.ns, i64_w, i32_w]
      rfl
     refine take_ (i := 9) (N := some 70) (v := ?_) (a' := ?_) #[true, true, true, true, true, true, true, true, true, true, true, true, true, false, false, false, false, false] rfl rfl (by kernel_rfl) (fun _ _ _ h => h) (Or.inl ⟨by rfl, ?_⟩) hHeld ?_ ?_
     rotate_left
     ·
      rintro w' ⟨s0, s1, s2, s3, s4, s5, s6, s7, s8, s9, s10, s11, s12, s13, s14, s15⟩
      go_simp
      with_reducible rfl
     rotate_left
     ·
      simp only [Act.put, Own.na, Own.nz, Own.ns, i64_w, i32_w]
      rfl
     refine take_ (i := 13) (N := some 74) (v := ?_) (a' := ?_) #[true, true, true, true, true, true, true, true, true, true, true, true, true, true, false, false, false, false] rfl rfl (by kernel_rfl) (fun _ _ _ h => h) (Or.inl ⟨by rfl, ?_⟩) hHeld ?_ ?_
     rotate_left
     ·
      rintro w' ⟨s0, s1, s2, s3, s4, s5, s6, s7, s8, s9, s10, s11, s12, s13, s14, s15⟩
      go_simp
      with_reducible rfl
     rotate_left
     ·
      simp only [Act.put, Own.na, Own.nz, Own.ns, i64_w, i32_w]
      rfl
     refine pure_ (i := 14) (N := some 75) (v := ?_) (a' := ?_) #[true, true, true, true, true, true, true, true, true, true, true, true, true, true, true, false, false, false] rfl rfl (by kernel_rfl) (fun _ _ _ h => h) (Or.inl ⟨by rfl, ?_⟩) ?_ ?_
     rotate_left
     ·
      intro w'
      go_simp
      with_reducible rfl
     rotate_left
     ·
      simp only [Act.put, Own.na, Own.nz, Own.ns, i64_w, i32_w]
      rfl
     refine last_ (i := 15) (N := none) #[true, true, true, true, true, true, true, true, true, true, true, true, true, true, true, true, false, false] rfl rfl (by kernel_rfl) (by decide) (fun K hK => ?_)
     refine skip_ (w1 := _) (by rfl) rfl (store_item (k := k) (y0, y1, y2, y3, y4, y5, y6, y7) rfl rfl rfl HAD.out HRd.out HX.out) ?_
     have hs1 := row_set (y0, y1, y2, y3, y4, y5, y6, y7) HRd.out HX.out
     have HR2 := Lib.hid hs1.1
     have HG2 := Lib.hid (grown_trans HGd.out hs1.2)
     clear hs1
     generalize W1.setCells g (k * 8) (cellsI (y0, y1, y2, y3, y4, y5, y6, y7)) = W2 at *
     refine hK.out _ _ ?_
     clear hK K
     refine pure_ (i := 16) (N := some 76) (v := ?_) (a' := ?_) #[true, true, true, true, true, true, true, true, true, true, true, true, true, true, true, true, true, false] rfl rfl (by kernel_rfl) (fun _ _ _ h => h) (Or.inl ⟨by rfl, ?_⟩) ?_ ?_
     rotate_left
     ·
      intro w'
      go_simp
      with_reducible rfl
     rotate_left
     ·
      simp only [Act.put, Own.na, Own.nz, Own.ns, i64_w, i32_w]
      rfl
     refine last_ (i := 17) (N := none) #[true, true, true, true, true, true, true, true, true, true, true, true, true, true, true, true, true, true] rfl rfl (by kernel_rfl) (by decide) (fun K hK => ?_)
     refine skip_ (w1 := _) (by rfl) rfl (store_item (k := k1) (x0, x1, x2, x3, x4, x5, x6, x7) rfl rfl rfl HAD.out HR2.out HZ2.out) ?_
     have hs1 := row_set (x0, x1, x2, x3, x4, x5, x6, x7) HR2.out HZ2.out
     have HR3 := Lib.hid hs1.1
     have HG3 := Lib.hid (grown_trans HG2.out hs1.2)
     clear hs1
     generalize W2.setCells g (k1 * 8) (cellsI (x0, x1, x2, x3, x4, x5, x6, x7)) = W3 at *
     refine hK.out _ _ ?_
     clear hK K
     refine done_ (by kernel_rfl) ?_
     clear e0 e1 e2 e3 e4 e5 e6 e7 f0 f1 f2 f3 f4 f5 f6 f7
     have HR4 : Hid (Row W3 W0.heap.size g N c (p ++ (v1.take (t + 1) ++ (x0, x1, x2, x3, x4, x5, x6, x7) :: (v1.drop (t + 1) ++ (v2 ++ q))))) := Lib.hid (by rw [← HE.out]; exact HR3.out)
     clear HR HG HRd HGd HR2 HG2 HR3 HE HX HY HZ2 wk1
     go_wp2
     go_roundg (gk - 1)
     case measure => omega
     case rel => exact ⟨k + 1, t + 1, by go_num, Lib.hid (by have := HKT.out; omega), by omega, by omega, HR4, HG3⟩
    ·
     have hkI : ¬ (k : Int) < (i : Int) - 1 := by have := HN1.out; have := HKT.out; omega
     have htn2 : t = n1 := by omega
     have HR4 : Hid (Row wr W0.heap.size g N c (p ++ ((v1 ++ (x0, x1, x2, x3, x4, x5, x6, x7) :: v2) ++ q))) := Lib.hid (by
      have h := HR.out
      rw [htn2, ← HVL.out, List.take_length, List.drop_length] at h
      simpa using h)
     clear HR
     go_wp2
     refine bodyPost_ret (results_none rfl _ _ _) rfl ?_
     exact ⟨rfl, ⟨_, HR4.out, HST.out⟩, HG.out⟩
end Go.Proofs.YtibmfjacfbpfgaaGreatDoor.SortMrgA
/- sort: symMerge, where one stands behind. -/
namespace Go.Proofs.YtibmfjacfbpfgaaGreatDoor.SortMrgB
open Go.RowKit YtibmfjacfbpfgaaGreatDoorW.PrintWords YtibmfjacfbpfgaaGreatDoorW.PrintLast YtibmfjacfbpfgaaGreatDoorW.PrintMore YtibmfjacfbpfgaaGreatDoor.Item Own Stab SortLaw TreeLaw NameWalk SortSwap SortIns SortMrgA
set_option maxHeartbeats 8000000 in
set_option maxRecDepth 100000 in
theorem mergeB (W0 : World) (hgl : Glob W0) (g N c a m b : Nat) (p u q : List It) (y0 : ByteArray) (y1 y2 y3 y4 y5 y6 : Int) (y7 : ByteArray) (W : World) (hN : N ≤ 1000000) (ha : a = p.length) (hm : m = a + u.length) (hb : b = m + 1) (hu : 2 ≤ u.length) (hs : Sorted ltI u) (hy : y0.size < 4294967281) (hsz : Short u) (hB : Below W0.heap.size W0 W) (h : Row W W0.heap.size g N c (p ++ (u ++ (y0, y1, y2, y3, y4, y5, y6, y7) :: q))) :
  Calls Tryz.prog 158 #[.slice (some ⟨g, 0, none⟩) N c, .int .i64 a, .int .i64 m, .int .i64 b, .func (.func 110) #[] #[]] W fun e w' => e = .returned (.tuple #[]) ∧ (∃ s, Row w' W0.heap.size g N c (p ++ (s ++ q)) ∧ Stb ltI (u ++ [(y0, y1, y2, y3, y4, y5, y6, y7)]) s) ∧ W.grownBy w' (some g) := by
 obtain ⟨ad, had⟩ : ∃ ad : Addr, ad = ⟨g, 0, none⟩ := ⟨_, rfl⟩
 rw [← had]
 have HAD := Lib.hid had
 have HGL := Lib.hid hgl
 have HB := Lib.hid hB
 have HNG := Lib.hid h.base
 have HR0 := Lib.hid h
 have HGO := Lib.hid (grown_refl W (some g))
 have hlen := h.1
 simp only [List.length_append, List.length_cons] at hlen
 have HSY := Lib.hid hy
 have HSZ := Lib.hid hsz
 have HS := Lib.hid hs
 have HA := Lib.hid ha
 have hbN : b ≤ N := by omega
 obtain ⟨L, hL⟩ : ∃ L, L = p ++ (u ++ (y0, y1, y2, y3, y4, y5, y6, y7) :: q) := ⟨_, rfl⟩
 rw [← hL] at HR0
 have HL := Lib.hid hL
 have HLY : Hid (L[m]? = some (y0, y1, y2, y3, y4, y5, y6, y7)) := Lib.hid (at_mid' (p := p ++ u) (q := q) (by rw [hL]; simp) (by rw [List.length_append]; omega))
 have HAT : Hid (∀ k, k < u.length → L[a + k]? = u[k]?) := Lib.hid (fun k hk => by rw [hL, ha]; exact in_left hk)
 have hmN : m < N := by omega
 have HMB := Lib.hid (show a ≤ m ∧ m - a = u.length ∧ b = m + 1 by omega)
 have ham : a ≤ m := by omega
 have q0 : ((m : Int) - (a : Int) == 1) = false := beq_eq_false_iff_ne.2 (by omega)
 have q00 : ((b : Int) - (m : Int) == 1) = true := beq_iff_eq.2 (by omega)
 have qm : (m : Int) < (N : Int) := i_lt hmN
 obtain ⟨F, hF⟩ : ∃ F, F = m := ⟨_, rfl⟩
 have hFb : m ≤ a + F := by omega
 clear had hgl hB h hsz ha hb hs hy hlen hF hL hm hu
 go_enter Tryz.func158, Tryz.ntmps158
 go_wp2
 go_loopg [14, 15, 16] F (fun gg vi vj vh wr => ∃ i j : Nat, vi = .int .i64 i ∧ vj = .int .i64 j ∧ a ≤ i ∧ i ≤ j ∧ j ≤ m ∧ j ≤ i + gg ∧ Hid ((i = a ∨ ∃ x, u[i - a - 1]? = some x ∧ ltI (y0, y1, y2, y3, y4, y5, y6, y7) x = false) ∧ (j = m ∨ ∃ x, u[j - a]? = some x ∧ ltI (y0, y1, y2, y3, y4, y5, y6, y7) x = true)) ∧ Hid (Row wr W0.heap.size g N c L) ∧ Hid (W.grownBy wr (some g)))
 case atStart => exact ⟨a, m, rfl, rfl, Nat.le_refl _, ham, Nat.le_refl _, hFb, Lib.hid ⟨.inl rfl, .inl rfl⟩, HR0, HGO⟩
 case round =>
  clear HR0 HGO hFb
  obtain ⟨i, j, rfl, rfl, hai, hij, hjm, hjg, HI, HR, HG⟩ := hrel
  by_cases hlt : i < j
  ·
   have hltI : (i : Int) < (j : Int) := i_lt hlt
   obtain ⟨hh, hh2⟩ : ∃ h, h = (i + j) / 2 := ⟨_, rfl⟩
   have hhI := h_mid hh2
   have hhij := mid_in hh2 hlt
   have hhv : hh - a < u.length := by have := HMB.out; omega
   obtain ⟨x, hx⟩ : ∃ x, u[hh - a]? = some x := ⟨_, List.getElem?_eq_getElem hhv⟩
   have hLx : L[hh]? = some x := by have := HAT.out (hh - a) hhv; rw [show a + (hh - a) = hh by omega] at this; rw [this, hx]
   obtain ⟨x0, x1, x2, x3, x4, x5, x6, x7⟩ := x
   have HX := Lib.hid hLx
   have HXV := Lib.hid hx
   have HSX : Hid (x0.size < 4294967281) := Lib.hid (HSZ.out (x0, x1, x2, x3, x4, x5, x6, x7) (List.mem_of_getElem? hx))
   have HLT : Hid (ltI (y0, y1, y2, y3, y4, y5, y6, y7) (x0, x1, x2, x3, x4, x5, x6, x7) = decide (orderT y0 x0 < 0)) := Lib.hid rfl
   have qh : (hh : Int) < (N : Int) := i_lt (by omega)
   clear hh2 hhv hx hLx
   obtain ⟨e0, e1, e2, e3, e4, e5, e6, e7⟩ := row_load HR.out HAD.out HLY.out
   obtain ⟨f0, f1, f2, f3, f4, f5, f6, f7⟩ := row_load HR.out HAD.out HX.out
   simp only at e0 e1 e2 e3 e4 e5 e6 e7 f0 f1 f2 f3 f4 f5 f6 f7
   go_wp2_with fail
   refine start_ (n := 12) (S := fun w' => w'.cell? (ad.add (m * 8)) = some (.string y0) ∧ w'.cell? ⟨(ad.add (m * 8)).block, (ad.add (m * 8)).off + 1, none⟩ = some (.int .i64 y1) ∧ w'.cell? ⟨(ad.add (m * 8)).block, (ad.add (m * 8)).off + 2, none⟩ = some (.int .u32 y2) ∧ w'.cell? ⟨(ad.add (m * 8)).block, (ad.add (m * 8)).off + 3, none⟩ = some (.int .u32 y3) ∧ w'.cell? ⟨(ad.add (m * 8)).block, (ad.add (m * 8)).off + 4, none⟩ = some (.int .u32 y4) ∧ w'.cell? ⟨(ad.add (m * 8)).block, (ad.add (m * 8)).off + 5, none⟩ = some (.int .i64 y5) ∧ w'.cell? ⟨(ad.add (m * 8)).block, (ad.add (m * 8)).off + 6, none⟩ = some (.int .i64 y6) ∧ w'.cell? ⟨(ad.add (m * 8)).block, (ad.add (m * 8)).off + 7, none⟩ = some (.string y7) ∧ w'.cell? (ad.add (hh * 8)) = some (.string x0) ∧ w'.cell? ⟨(ad.add (hh * 8)).block, (ad.add (hh * 8)).off + 1, none⟩ = some (.int .i64 x1) ∧ w'.cell? ⟨(ad.add (hh * 8)).block, (ad.add (hh * 8)).off + 2, none⟩ = some (.int .u32 x2) ∧ w'.cell? ⟨(ad.add (hh * 8)).block, (ad.add (hh * 8)).off + 3, none⟩ = some (.int .u32 x3) ∧ w'.cell? ⟨(ad.add (hh * 8)).block, (ad.add (hh * 8)).off + 4, none⟩ = some (.int .u32 x4) ∧ w'.cell? ⟨(ad.add (hh * 8)).block, (ad.add (hh * 8)).off + 5, none⟩ = some (.int .i64 x5) ∧ w'.cell? ⟨(ad.add (hh * 8)).block, (ad.add (hh * 8)).off + 6, none⟩ = some (.int .i64 x6) ∧ w'.cell? ⟨(ad.add (hh * 8)).block, (ad.add (hh * 8)).off + 7, none⟩ = some (.string x7)) (ds := [9]) #[false, false, false, false, false, false, false, false, false, false, false, false] (by kernel_rfl) rfl rfl ⟨e0, e1, e2, e3, e4, e5, e6, e7, f0, f1, f2, f3, f4, f5, f6, f7⟩ (fun hHeld => ?_)
   have HRd := Lib.hid (Row.below HR.out (below_drew (Below.refl wr.heap.size wr)))
   have HGd := Lib.hid (grown_drew HG.out)
   generalize wr.drew = W1 at *
   refine pure_ (i := 0) (N := some 92) (v := ?_) (a' := ?_) #[true, false, false, false, false, false, false, false, false, false, false, false] rfl rfl (by kernel_rfl) (fun _ _ _ h => h) (Or.inl ⟨by rfl, ?_⟩) ?_ ?_
   rotate_left
   ·
    intro w'
    go_simp
    with_reducible rfl
   rotate_left
   ·
    simp only [Act.put, Own.na, Own.nz, Own.ns, i64_w, i32_w]
    rfl
   refine pure_ (i := 1) (N := some 93) (v := ?_) (a' := ?_) #[true, true, false, false, false, false, false, false, false, false, false, false] rfl rfl (by kernel_rfl) (fun _ _ _ h => h) (Or.inl ⟨by rfl, ?_⟩) ?_ ?_
   rotate_left
   ·
    intro w'
    go_simp
    with_reducible rfl
   rotate_left
   ·
    simp only [Act.put, Own.na, Own.nz, Own.ns, i64_w, i32_w]
    rfl
   refine pure_ (i := 2) (N := some 94) (v := ?_) (a' := ?_) #[true, true, true, false, false, false, false, false, false, false, false, false] rfl rfl (by kernel_rfl) (fun _ _ _ h => h) (Or.inl ⟨by rfl, ?_⟩) ?_ ?_
   rotate_left
   ·
    intro w'
    go_simp
    with_reducible rfl
   rotate_left
   ·
    simp only [Act.put, Own.na, Own.nz, Own.ns, i64_w, i32_w]
    rfl
   refine pure_ (i := 3) (N := some 95) (v := ?_) (a' := ?_) #[true, true, true, true, false, false, false, false, false, false, false, false] rfl rfl (by kernel_rfl) (fun _ _ _ h => h) (Or.inl ⟨by rfl, ?_⟩) ?_ ?_
   rotate_left
   ·
    intro w'
    go_simp
    with_reducible rfl
   rotate_left
   ·
    simp only [Act.put, Own.na, Own.nz, Own.ns, i64_w, i32_w]
    rfl
   refine pure_ (i := 5) (N := some 97) (v := ?_) (a' := ?_) #[true, true, true, true, false, true, false, false, false, false, false, false] rfl rfl (by kernel_rfl) (fun _ _ _ h => h) (Or.inl ⟨by rfl, ?_⟩) ?_ ?_
   rotate_left
   ·
    intro w'
    go_simp
    with_reducible rfl
   rotate_left
   ·
    simp only [Act.put, Own.na, Own.nz, Own.ns, i64_w, i32_w]
    rfl
   refine pure_ (i := 6) (N := some 98) (v := ?_) (a' := ?_) #[true, true, true, true, false, true, true, false, false, false, false, false] rfl rfl (by kernel_rfl) (fun _ _ _ h => h) (Or.inl ⟨by rfl, ?_⟩) ?_ ?_
   rotate_left
   ·
    intro w'
    go_simp
    with_reducible rfl
   rotate_left
   ·
    simp only [Act.put, Own.na, Own.nz, Own.ns, i64_w, i32_w]
    rfl
   refine pure_ (i := 7) (N := some 99) (v := ?_) (a' := ?_) #[true, true, true, true, false, true, true, true, false, false, false, false] rfl rfl (by kernel_rfl) (fun _ _ _ h => h) (Or.inl ⟨by rfl, ?_⟩) ?_ ?_
   rotate_left
   ·
    intro w'
    go_simp
    with_reducible rfl
   rotate_left
   ·
    simp only [Act.put, Own.na, Own.nz, Own.ns, i64_w, i32_w]
    rfl
   refine take_ (i := 4) (N := some 96) (v := ?_) (a' := ?_) #[true, true, true, true, true, true, true, true, false, false, false, false] rfl rfl (by kernel_rfl) (fun _ _ _ h => h) (Or.inl ⟨by rfl, ?_⟩) hHeld ?_ ?_
   rotate_left
   ·
    rintro w' ⟨s0, s1, s2, s3, s4, s5, s6, s7, s8, s9, s10, s11, s12, s13, s14, s15⟩
    go_simp
    with_reducible rfl
   rotate_left
   ·
    simp only [Act.put, Own.na, Own.nz, Own.ns, i64_w, i32_w]
    rfl
   refine take_ (i := 8) (N := some 100) (v := ?_) (a' := ?_) #[true, true, true, true, true, true, true, true, true, false, false, false] rfl rfl (by kernel_rfl) (fun _ _ _ h => h) (Or.inl ⟨by rfl, ?_⟩) hHeld ?_ ?_
   rotate_left
   ·
    rintro w' ⟨s0, s1, s2, s3, s4, s5, s6, s7, s8, s9, s10, s11, s12, s13, s14, s15⟩
    go_simp
    with_reducible rfl
   rotate_left
   ·
    simp only [Act.put, Own.na, Own.nz, Own.ns, i64_w, i32_w]
    rfl
   refine last_ (i := 9) (N := some 101) #[true, true, true, true, true, true, true, true, true, true, false, false] rfl rfl (by kernel_rfl) (by decide) (fun K hK => ?_)
   refine goesC_ (x := 92) (fn := Tryz.f110) (f := 110) Tryz.func110 (by kernel_rfl) rfl #[.agg #[.string y0, .int .i64 y1, .int .u32 y2, .int .u32 y3, .int .u32 y4, .int .i64 y5, .int .i64 y6, .string y7], .agg #[.string x0, .int .i64 x1, .int .u32 x2, .int .u32 x3, .int .u32 x4, .int .i64 x5, .int .i64 x6, .string x7]] (by rfl) rfl rfl rfl (by simp only [List.map_toArray, List.map_cons, List.map_nil]; rfl) ?_
   with_reducible refine (cmp_any y0 y1 y2 y3 y4 y5 y6 y7 x0 x1 x2 x3 x4 x5 x6 x7 W1 (HGL.out.below (below_row HB.out HGd.out HNG.out)) HSY.out HSX.out).mono ?_
   rintro e W4 ⟨rfl, hbc⟩
   have HRc := Lib.hid (HRd.out.below hbc)
   have HGc := Lib.hid (grown_below HGd.out hbc)
   clear hbc
   refine ⟨_, rfl, ?_⟩
   generalize orderT y0 x0 = rr at *
   refine hK.out _ _ ?_
   clear hK K
   refine norm_ (a' := ?_) ?_ ?_
   rotate_left
   ·
    show Act.put _ (some 101) _ = _
    simp only [Act.put, Own.na, Own.nz, Own.ns, i64_w, i32_w]
    rfl
   refine pure_ (i := 10) (N := some 102) (v := ?_) (a' := ?_) #[true, true, true, true, true, true, true, true, true, true, true, false] rfl rfl (by kernel_rfl) (fun _ _ _ h => h) (Or.inl ⟨by rfl, ?_⟩) ?_ ?_
   rotate_left
   ·
    intro w'
    go_simp
    with_reducible rfl
   rotate_left
   ·
    simp only [Act.put, Own.na, Own.nz, Own.ns, i64_w, i32_w]
    rfl
   refine pure_ (i := 11) (N := some 103) (v := ?_) (a' := ?_) #[true, true, true, true, true, true, true, true, true, true, true, true] rfl rfl (by kernel_rfl) (fun _ _ _ h => h) (Or.inl ⟨by rfl, ?_⟩) ?_ ?_
   rotate_left
   ·
    intro w'
    go_simp
    with_reducible rfl
   rotate_left
   ·
    simp only [Act.put, Own.na, Own.nz, Own.ns, i64_w, i32_w]
    rfl
   refine done_ (by kernel_rfl) ?_
   clear e0 e1 e2 e3 e4 e5 e6 e7 f0 f1 f2 f3 f4 f5 f6 f7
   clear HR HRd HG HGd
   obtain ⟨bb, hbb⟩ : ∃ bb, bb = decide (rr < 0) := ⟨_, rfl⟩
   rw [← hbb] at HLT ⊢
   clear hbb
   cases bb with
   | true =>
    have HI2 : Hid ((i = a ∨ ∃ x, u[i - a - 1]? = some x ∧ ltI (y0, y1, y2, y3, y4, y5, y6, y7) x = false) ∧ (hh = m ∨ ∃ x, u[hh - a]? = some x ∧ ltI (y0, y1, y2, y3, y4, y5, y6, y7) x = true)) := Lib.hid ⟨HI.out.1, .inr ⟨(x0, x1, x2, x3, x4, x5, x6, x7), HXV.out, HLT.out⟩⟩
    clear HI HX HXV HSX HLT
    go_wp2
    go_roundg (gk - 1)
    case measure => omega
    case rel => exact ⟨i, hh, rfl, rfl, hai, by omega, by omega, by omega, HI2, HRc, HGc⟩
   | false =>
    have HI2 : Hid ((hh + 1 = a ∨ ∃ x, u[hh + 1 - a - 1]? = some x ∧ ltI (y0, y1, y2, y3, y4, y5, y6, y7) x = false) ∧ (j = m ∨ ∃ x, u[j - a]? = some x ∧ ltI (y0, y1, y2, y3, y4, y5, y6, y7) x = true)) := Lib.hid ⟨.inr ⟨(x0, x1, x2, x3, x4, x5, x6, x7), by rw [show hh + 1 - a - 1 = hh - a by omega]; exact HXV.out, HLT.out⟩, HI.out.2⟩
    clear HI HX HXV HSX HLT
    go_wp2
    go_roundg (gk - 1)
    case measure => omega
    case rel => exact ⟨hh + 1, j, by go_num, rfl, by omega, by omega, hjm, by omega, HI2, HRc, HGc⟩
  ·
   have hltI : ¬ (i : Int) < (j : Int) := by omega
   have hji : i = j := by omega
   subst hji
   obtain ⟨n1, hn1⟩ : ∃ n1, n1 = i - a := ⟨_, rfl⟩
   have hnu : n1 ≤ u.length := by have := HMB.out; omega
   have HST : Hid (Stb ltI (u ++ [(y0, y1, y2, y3, y4, y5, y6, y7)]) (u.take n1 ++ (y0, y1, y2, y3, y4, y5, y6, y7) :: u.drop n1)) := Lib.hid (by
    have hi := HI.out
    have hmb2 := HMB.out
    refine cutB HS.out hnu ?_ ?_
    ·
     rcases hi.1 with e | e
     ·
      exact .inl (by omega)
     ·
      exact .inr (by rw [hn1]; exact e)
    ·
     rcases hi.2 with e | e
     ·
      exact .inl (by omega)
     ·
      exact .inr (by rw [hn1]; exact e))
   obtain ⟨n2, hn2⟩ : ∃ n2, n2 = u.length - n1 := ⟨_, rfl⟩
   have hn2l : (u.drop n1).length = n2 := by rw [List.length_drop, hn2]
   have HRS : Hid (Row wr W0.heap.size g N c (p ++ (u.take n1 ++ ((u.drop n1).take n2 ++ (y0, y1, y2, y3, y4, y5, y6, y7) :: ((u.drop n1).drop n2 ++ q))))) := Lib.hid (by
    have h := HR.out
    rw [HL.out] at h
    rw [← hn2l, List.take_length, List.drop_length, List.nil_append, ← List.append_assoc (u.take n1), List.take_append_drop]
    exact h)
   have HN1 := Lib.hid (show i = a + n1 ∧ m = i + n2 by have := HMB.out; omega)
   obtain ⟨u1, hu1⟩ : ∃ u1, u1 = u.take n1 := ⟨_, rfl⟩
   obtain ⟨u2, hu2⟩ : ∃ u2, u2 = u.drop n1 := ⟨_, rfl⟩
   rw [← hu1, ← hu2] at HST HRS
   have HUL := Lib.hid (show u1.length = n1 ∧ u2.length = n2 by rw [hu1, hu2, List.length_take]; omega)
   obtain ⟨F2, hF2⟩ : ∃ F2, F2 = n2 := ⟨_, rfl⟩
   have hF2n : n2 ≤ F2 := by omega
   clear hn1 hu1 hu2 hn2 hn2l HI HR hF2
   go_wp2
   go_loopg [17] F2 (fun gg vk wr => ∃ k t : Nat, vk = .int .i64 k ∧ Hid (k = i + t) ∧ t ≤ n2 ∧ t ≤ gg ∧ Hid (Row wr W0.heap.size g N c (p ++ (u1 ++ (u2.take t ++ (y0, y1, y2, y3, y4, y5, y6, y7) :: (u2.drop t ++ q))))) ∧ Hid (W.grownBy wr (some g)))
   case atStart => exact ⟨m, n2, rfl, Lib.hid HN1.out.2, Nat.le_refl _, hF2n, HRS, HG⟩
   case round =>
    clear HRS HG hF2n
    obtain ⟨k, t, rfl, HKT, htn, hng, HR, HG⟩ := hrel
    by_cases htl : 0 < t
    ·
     have hkI : (i : Int) < (k : Int) := by have := HKT.out; omega
     obtain ⟨k1, hk1⟩ : ∃ k1, k1 = k - 1 := ⟨_, rfl⟩
     have hk1I : (k : Int) - 1 = (k1 : Int) := by have := HKT.out; omega
     have qk : (k : Int) < (N : Int) := i_lt (by have := HKT.out; have := HN1.out; omega)
     have qk1 : (k1 : Int) < (N : Int) := i_lt (by have := HKT.out; have := HN1.out; omega)
     obtain ⟨s, hst⟩ : ∃ s, t = s + 1 := ⟨t - 1, by omega⟩
     have hlt2 : s < u2.length := by have := HUL.out; omega
     obtain ⟨x, hx⟩ : ∃ x, x = u2[s] := ⟨_, rfl⟩
     have hv5 : u2.take t = u2.take s ++ [x] := by rw [hst, hx]; exact (List.take_append_getElem hlt2).symm
     have hv4 : u2.drop s = x :: u2.drop t := by rw [hst, hx]; exact List.drop_eq_getElem_cons hlt2
     obtain ⟨x0, x1, x2, x3, x4, x5, x6, x7⟩ := x
     obtain ⟨M, hM⟩ : ∃ M, M = p ++ (u1 ++ (u2.take t ++ (y0, y1, y2, y3, y4, y5, y6, y7) :: (u2.drop t ++ q))) := ⟨_, rfl⟩
     have hsw := swap_mid' (l := M) (p := p ++ (u1 ++ u2.take s)) (m := []) (q := u2.drop t ++ q) (x := (x0, x1, x2, x3, x4, x5, x6, x7)) (y := (y0, y1, y2, y3, y4, y5, y6, y7)) (i := k1) (j := k) (by rw [hM, hv5]; simp only [List.append_assoc, List.cons_append, List.nil_append]) (by simp only [List.length_append, List.length_take]; have h1 := HKT.out; have h2 := HUL.out; have h3 := HN1.out; have h4 := HA.out; omega) (by simp only [List.length_nil]; have := HKT.out; omega)
     rw [← hM] at HR
     have HX := Lib.hid hsw.2.1
     have HY := Lib.hid hsw.1
     have HE : Hid ((M.set k (x0, x1, x2, x3, x4, x5, x6, x7)).set k1 (y0, y1, y2, y3, y4, y5, y6, y7) = p ++ (u1 ++ (u2.take s ++ (y0, y1, y2, y3, y4, y5, y6, y7) :: (u2.drop s ++ q)))) := Lib.hid (by
      have e := hsw.2.2.2
      unfold swapL at e
      rw [e, hv4]
      simp only [List.append_assoc, List.cons_append, List.nil_append])
     have hne : k ≠ k1 := by have := HKT.out; omega
     have HZ2 : Hid ((M.set k (x0, x1, x2, x3, x4, x5, x6, x7))[k1]? = some (x0, x1, x2, x3, x4, x5, x6, x7)) := Lib.hid (by rw [List.getElem?_set_ne hne]; exact hsw.1)
     have HS1 := Lib.hid (show k1 = i + s ∧ s + 1 = t by have := HKT.out; omega)
     have hk1N : k1 ≤ N := by omega
     clear hsw hM hv4 hv5 hne hk1 hst hx
     have wk1 := w_le hk1N hN
     obtain ⟨e0, e1, e2, e3, e4, e5, e6, e7⟩ := row_load HR.out HAD.out HX.out
     obtain ⟨f0, f1, f2, f3, f4, f5, f6, f7⟩ := row_load HR.out HAD.out HY.out
     simp only at e0 e1 e2 e3 e4 e5 e6 e7 f0 f1 f2 f3 f4 f5 f6 f7
     go_wp2_with fail
     refine start_ (n := 18) (S := fun w' => w'.cell? (ad.add (k * 8)) = some (.string y0) ∧ w'.cell? ⟨(ad.add (k * 8)).block, (ad.add (k * 8)).off + 1, none⟩ = some (.int .i64 y1) ∧ w'.cell? ⟨(ad.add (k * 8)).block, (ad.add (k * 8)).off + 2, none⟩ = some (.int .u32 y2) ∧ w'.cell? ⟨(ad.add (k * 8)).block, (ad.add (k * 8)).off + 3, none⟩ = some (.int .u32 y3) ∧ w'.cell? ⟨(ad.add (k * 8)).block, (ad.add (k * 8)).off + 4, none⟩ = some (.int .u32 y4) ∧ w'.cell? ⟨(ad.add (k * 8)).block, (ad.add (k * 8)).off + 5, none⟩ = some (.int .i64 y5) ∧ w'.cell? ⟨(ad.add (k * 8)).block, (ad.add (k * 8)).off + 6, none⟩ = some (.int .i64 y6) ∧ w'.cell? ⟨(ad.add (k * 8)).block, (ad.add (k * 8)).off + 7, none⟩ = some (.string y7) ∧ w'.cell? (ad.add (k1 * 8)) = some (.string x0) ∧ w'.cell? ⟨(ad.add (k1 * 8)).block, (ad.add (k1 * 8)).off + 1, none⟩ = some (.int .i64 x1) ∧ w'.cell? ⟨(ad.add (k1 * 8)).block, (ad.add (k1 * 8)).off + 2, none⟩ = some (.int .u32 x2) ∧ w'.cell? ⟨(ad.add (k1 * 8)).block, (ad.add (k1 * 8)).off + 3, none⟩ = some (.int .u32 x3) ∧ w'.cell? ⟨(ad.add (k1 * 8)).block, (ad.add (k1 * 8)).off + 4, none⟩ = some (.int .u32 x4) ∧ w'.cell? ⟨(ad.add (k1 * 8)).block, (ad.add (k1 * 8)).off + 5, none⟩ = some (.int .i64 x5) ∧ w'.cell? ⟨(ad.add (k1 * 8)).block, (ad.add (k1 * 8)).off + 6, none⟩ = some (.int .i64 x6) ∧ w'.cell? ⟨(ad.add (k1 * 8)).block, (ad.add (k1 * 8)).off + 7, none⟩ = some (.string x7)) (ds := [15, 17]) #[false, false, false, false, false, false, false, false, false, false, false, false, false, false, false, false, false, false] (by kernel_rfl) rfl rfl ⟨e0, e1, e2, e3, e4, e5, e6, e7, f0, f1, f2, f3, f4, f5, f6, f7⟩ (fun hHeld => ?_)
     have HRd := Lib.hid (Row.below HR.out (below_drew (Below.refl wr.heap.size wr)))
     have HGd := Lib.hid (grown_drew HG.out)
     generalize wr.drew = W1 at *
     refine pure_ (i := 0) (N := some 113) (v := ?_) (a' := ?_) #[true, false, false, false, false, false, false, false, false, false, false, false, false, false, false, false, false, false] rfl rfl (by kernel_rfl) (fun _ _ _ h => h) (Or.inl ⟨by rfl, ?_⟩) ?_ ?_
     rotate_left
     ·
      intro w'
      go_simp
      with_reducible rfl
     rotate_left
     ·
      simp only [Act.put, Own.na, Own.nz, Own.ns, i64_w, i32_w]
      rfl
     refine pure_ (i := 1) (N := some 114) (v := ?_) (a' := ?_) #[true, true, false, false, false, false, false, false, false, false, false, false, false, false, false, false, false, false] rfl rfl (by kernel_rfl) (fun _ _ _ h => h) (Or.inl ⟨by rfl, ?_⟩) ?_ ?_
     rotate_left
     ·
      intro w'
      go_simp
      with_reducible rfl
     rotate_left
     ·
      simp only [Act.put, Own.na, Own.nz, Own.ns, i64_w, i32_w]
      rfl
     refine pure_ (i := 2) (N := some 115) (v := ?_) (a' := ?_) #[true, true, true, false, false, false, false, false, false, false, false, false, false, false, false, false, false, false] rfl rfl (by kernel_rfl) (fun _ _ _ h => h) (Or.inl ⟨by rfl, ?_⟩) ?_ ?_
     rotate_left
     ·
      intro w'
      go_simp
      with_reducible rfl
     rotate_left
     ·
      simp only [Act.put, Own.na, Own.nz, Own.ns, i64_w, i32_w]
      rfl
     refine pure_ (i := 3) (N := some 116) (v := ?_) (a' := ?_) #[true, true, true, true, false, false, false, false, false, false, false, false, false, false, false, false, false, false] rfl rfl (by kernel_rfl) (fun _ _ _ h => h) (Or.inl ⟨by rfl, ?_⟩) ?_ ?_
     rotate_left
     ·
      intro w'
      go_simp
      with_reducible rfl
     rotate_left
     ·
      simp only [Act.put, Own.na, Own.nz, Own.ns, i64_w, i32_w]
      rfl
     refine pure_ (i := 4) (N := some 117) (v := ?_) (a' := ?_) #[true, true, true, true, true, false, false, false, false, false, false, false, false, false, false, false, false, false] rfl rfl (by kernel_rfl) (fun _ _ _ h => h) (Or.inl ⟨by rfl, ?_⟩) ?_ ?_
     rotate_left
     ·
      intro w'
      go_simp
      with_reducible rfl
     rotate_left
     ·
      simp only [Act.put, Own.na, Own.nz, Own.ns, i64_w, i32_w]
      rfl
     refine pure_ (i := 5) (N := some 118) (v := ?_) (a' := ?_) #[true, true, true, true, true, true, false, false, false, false, false, false, false, false, false, false, false, false] rfl rfl (by kernel_rfl) (fun _ _ _ h => h) (Or.inl ⟨by rfl, ?_⟩) ?_ ?_
     rotate_left
     ·
      intro w'
      go_simp
      with_reducible rfl
     rotate_left
     ·
      simp only [Act.put, Own.na, Own.nz, Own.ns, i64_w, i32_w]
      rfl
     refine pure_ (i := 6) (N := some 119) (v := ?_) (a' := ?_) #[true, true, true, true, true, true, true, false, false, false, false, false, false, false, false, false, false, false] rfl rfl (by kernel_rfl) (fun _ _ _ h => h) (Or.inl ⟨by rfl, ?_⟩) ?_ ?_
     rotate_left
     ·
      intro w'
      go_simp
      with_reducible rfl
     rotate_left
     ·
      simp only [Act.put, Own.na, Own.nz, Own.ns, i64_w, i32_w]
      rfl
     refine pure_ (i := 7) (N := some 120) (v := ?_) (a' := ?_) #[true, true, true, true, true, true, true, true, false, false, false, false, false, false, false, false, false, false] rfl rfl (by kernel_rfl) (fun _ _ _ h => h) (Or.inl ⟨by rfl, ?_⟩) ?_ ?_
     rotate_left
     ·
      intro w'
      go_simp
      with_reducible rfl
     rotate_left
     ·
      simp only [Act.put, Own.na, Own.nz, Own.ns, i64_w, i32_w]
      rfl
     refine pure_ (i := 8) (N := some 121) (v := ?_) (a' := ?_) #[true, true, true, true, true, true, true, true, true, false, false, false, false, false, false, false, false, false] rfl rfl (by kernel_rfl) (fun _ _ _ h => h) (Or.inl ⟨by rfl, ?_⟩) ?_ ?_
     rotate_left
     ·
      intro w'
      go_simp
      with_reducible rfl
     rotate_left
     ·
      simp only [Act.put, Own.na, Own.nz, Own.ns, i64_w, i32_w]
      rfl
     refine pure_ (i := 10) (N := some 123) (v := ?_) (a' := ?_) #[true, true, true, true, true, true, true, true, true, false, true, false, false, false, false, false, false, false] rfl rfl (by kernel_rfl) (fun _ _ _ h => h) (Or.inl ⟨by rfl, ?_⟩) ?_ ?_
     rotate_left
     ·
      intro w'
      go_simp
      with_reducible rfl
     rotate_left
     ·
      simp only [Act.put, Own.na, Own.nz, Own.ns, i64_w, i32_w]
      rfl
     refine pure_ (i := 11) (N := some 124) (v := ?_) (a' := ?_) #[true, true, true, true, true, true, true, true, true, false, true, true, false, false, false, false, false, false] rfl rfl (by kernel_rfl) (fun _ _ _ h => h) (Or.inl ⟨by rfl, ?_⟩) ?_ ?_
     rotate_left
     ·
      intro w'
      go_simp
      with_reducible rfl
     rotate_left
     ·
      simp only [Act.put, Own.na, Own.nz, Own.ns, i64_w, i32_w]
      rfl
     refine pure_ (i := 12) (N := some 125) (v := ?_) (a' := ?_) #[true, true, true, true, true, true, true, true, true, false, true, true, true, false, false, false, false, false] rfl rfl (by kernel_rfl) (fun _ _ _ h => h) (Or.inl ⟨by rfl, ?_⟩) ?_ ?_
     rotate_left
     ·
      intro w'
      go_simp
      with_reducible rfl
     rotate_left
     ·
      simp only [Act.put, Own.na, Own.nz, Own.ns, i64_w, i32_w]
      rfl
     refine take_ (i := 9) (N := some 122) (v := ?_) (a' := ?_) #[true, true, true, true, true, true, true, true, true, true, true, true, true, false, false, false, false, false] rfl rfl (by kernel_rfl) (fun _ _ _ h => h) (Or.inl ⟨by rfl, ?_⟩) hHeld ?_ ?_
     rotate_left
     ·
      rintro w' ⟨s0, s1, s2, s3, s4, s5, s6, s7, s8, s9, s10, s11, s12, s13, s14, s15⟩
      go_simp
      with_reducible rfl
     rotate_left
     ·
      simp only [Act.put, Own.na, Own.nz, Own.ns, i64_w, i32_w]
      rfl
     refine take_ (i := 13) (N := some 126) (v := ?_) (a' := ?_) #[true, true, true, true, true, true, true, true, true, true, true, true, true, true, false, false, false, false] rfl rfl (by kernel_rfl) (fun _ _ _ h => h) (Or.inl ⟨by rfl, ?_⟩) hHeld ?_ ?_
     rotate_left
     ·
      rintro w' ⟨s0, s1, s2, s3, s4, s5, s6, s7, s8, s9, s10, s11, s12, s13, s14, s15⟩
      go_simp
      with_reducible rfl
     rotate_left
     ·
      simp only [Act.put, Own.na, Own.nz, Own.ns, i64_w, i32_w]
      rfl
     refine pure_ (i := 14) (N := some 127) (v := ?_) (a' := ?_) #[true, true, true, true, true, true, true, true, true, true, true, true, true, true, true, false, false, false] rfl rfl (by kernel_rfl) (fun _ _ _ h => h) (Or.inl ⟨by rfl, ?_⟩) ?_ ?_
     rotate_left
     ·
      intro w'
      go_simp
      with_reducible rfl
     rotate_left
     ·
      simp only [Act.put, Own.na, Own.nz, Own.ns, i64_w, i32_w]
      rfl
     refine last_ (i := 15) (N := none) #[true, true, true, true, true, true, true, true, true, true, true, true, true, true, true, true, false, false] rfl rfl (by kernel_rfl) (by decide) (fun K hK => ?_)
     refine skip_ (w1 := _) (by rfl) rfl (store_item (k := k) (x0, x1, x2, x3, x4, x5, x6, x7) rfl rfl rfl HAD.out HRd.out HX.out) ?_
     have hs1 := row_set (x0, x1, x2, x3, x4, x5, x6, x7) HRd.out HX.out
     have HR2 := Lib.hid hs1.1
     have HG2 := Lib.hid (grown_trans HGd.out hs1.2)
     clear hs1
     generalize W1.setCells g (k * 8) (cellsI (x0, x1, x2, x3, x4, x5, x6, x7)) = W2 at *
     refine hK.out _ _ ?_
     clear hK K
     refine pure_ (i := 16) (N := some 128) (v := ?_) (a' := ?_) #[true, true, true, true, true, true, true, true, true, true, true, true, true, true, true, true, true, false] rfl rfl (by kernel_rfl) (fun _ _ _ h => h) (Or.inl ⟨by rfl, ?_⟩) ?_ ?_
     rotate_left
     ·
      intro w'
      go_simp
      with_reducible rfl
     rotate_left
     ·
      simp only [Act.put, Own.na, Own.nz, Own.ns, i64_w, i32_w]
      rfl
     refine last_ (i := 17) (N := none) #[true, true, true, true, true, true, true, true, true, true, true, true, true, true, true, true, true, true] rfl rfl (by kernel_rfl) (by decide) (fun K hK => ?_)
     refine skip_ (w1 := _) (by rfl) rfl (store_item (k := k1) (y0, y1, y2, y3, y4, y5, y6, y7) rfl rfl rfl HAD.out HR2.out HZ2.out) ?_
     have hs1 := row_set (y0, y1, y2, y3, y4, y5, y6, y7) HR2.out HZ2.out
     have HR3 := Lib.hid hs1.1
     have HG3 := Lib.hid (grown_trans HG2.out hs1.2)
     clear hs1
     generalize W2.setCells g (k1 * 8) (cellsI (y0, y1, y2, y3, y4, y5, y6, y7)) = W3 at *
     refine hK.out _ _ ?_
     clear hK K
     refine done_ (by kernel_rfl) ?_
     clear e0 e1 e2 e3 e4 e5 e6 e7 f0 f1 f2 f3 f4 f5 f6 f7
     have HR4 : Hid (Row W3 W0.heap.size g N c (p ++ (u1 ++ (u2.take s ++ (y0, y1, y2, y3, y4, y5, y6, y7) :: (u2.drop s ++ q))))) := Lib.hid (by rw [← HE.out]; exact HR3.out)
     clear HR HG HRd HGd HR2 HG2 HR3 HE HX HY HZ2 wk1
     go_wp2
     go_roundg (gk - 1)
     case measure => omega
     case rel => exact ⟨k1, s, by go_num, Lib.hid HS1.out.1, by have := HS1.out; omega, by have := HS1.out; omega, HR4, HG3⟩
    ·
     have hkI : ¬ (i : Int) < (k : Int) := by have := HKT.out; omega
     have htn2 : t = 0 := by omega
     have HR4 : Hid (Row wr W0.heap.size g N c (p ++ ((u1 ++ (y0, y1, y2, y3, y4, y5, y6, y7) :: u2) ++ q))) := Lib.hid (by
      have h := HR.out
      rw [htn2, List.take_zero, List.drop_zero] at h
      simpa using h)
     clear HR
     go_wp2
     refine bodyPost_ret (results_none rfl _ _ _) rfl ?_
     exact ⟨rfl, ⟨_, HR4.out, HST.out⟩, HG.out⟩
end Go.Proofs.YtibmfjacfbpfgaaGreatDoor.SortMrgB
/- sort: symMerge, the general step: behind the search. -/
namespace Go.Proofs.YtibmfjacfbpfgaaGreatDoor.SortMrgC
open Go.RowKit YtibmfjacfbpfgaaGreatDoorW.PrintWords YtibmfjacfbpfgaaGreatDoorW.PrintLast YtibmfjacfbpfgaaGreatDoorW.PrintMore YtibmfjacfbpfgaaGreatDoor.Item Own Stab SortLaw TreeLaw NameWalk SortSwap SortIns SortMrgA SortMrgB
theorem cutC {u v p q L : List It} {a m b n st s0 r0 mid : Nat} (hL : L = p ++ (u ++ (v ++ q))) (ha : a = p.length) (hm : m = a + u.length) (hb : b = m + v.length) (hn : n = mid + m) (h0 : a ≤ s0) (h1 : n ≤ b + s0) (h2 : r0 ≤ mid) (h3 : r0 ≤ m) (hs : s0 ≤ st) (hr : st ≤ r0)
  (hS : s0 = a ∨ s0 + b = n) (hR : r0 = mid ∨ r0 = m) (k1 : st = s0 ∨ ∃ x y, L[st - 1]? = some x ∧ L[n - st]? = some y ∧ ltI y x = false) (k2 : st = r0 ∨ ∃ x y, L[st]? = some x ∧ L[n - 1 - st]? = some y ∧ ltI y x = true) :
  (∀ x y, (u.take (st - a)).getLast? = some x → (v.drop (n - st - m)).head? = some y → ltI y x = false) ∧ (∀ y x, (v.take (n - st - m)).getLast? = some y → (u.drop (st - a)).head? = some x → ltI y x = true) := by
 have atU : ∀ k, k < u.length → L[a + k]? = u[k]? := fun k hk => by rw [hL, ha]; exact in_left hk
 have atV : ∀ k, k < v.length → L[m + k]? = v[k]? := fun k hk => by
  rw [hL, ← List.append_assoc, show m + k = (p ++ u).length + k by rw [List.length_append]; omega]
  exact in_left hk
 constructor
 ·
  intro x y hx hy
  rw [List.head?_drop] at hy
  have hyl := (List.getElem?_eq_some_iff.1 hy).1
  by_cases hz : st - a = 0
  ·
   rw [hz] at hx; simp at hx
  ·
   rw [List.getLast?_eq_getElem?, List.length_take, Nat.min_eq_left (by omega), List.getElem?_take_of_lt (by omega)] at hx
   rcases k1 with e | ⟨x', y', e1, e2, e3⟩
   ·
    rcases hS with f | f
    ·
     omega
    ·
     omega
   ·
    have f1 := atU (st - a - 1) (by omega)
    have f2 := atV (n - st - m) hyl
    rw [show a + (st - a - 1) = st - 1 by omega, hx, e1] at f1
    rw [show m + (n - st - m) = n - st by omega, hy, e2] at f2
    injection f1 with f1
    injection f2 with f2
    rw [← f1, ← f2]; exact e3
 ·
  intro y x hy hx
  rw [List.head?_drop] at hx
  have hxl := (List.getElem?_eq_some_iff.1 hx).1
  by_cases hz : n - st - m = 0
  ·
   rw [hz] at hy; simp at hy
  ·
   rw [List.getLast?_eq_getElem?, List.length_take, Nat.min_eq_left (by omega), List.getElem?_take_of_lt (by omega)] at hy
   rcases k2 with e | ⟨x', y', e1, e2, e3⟩
   ·
    rcases hR with f | f
    ·
     omega
    ·
     omega
   ·
    have f1 := atU (st - a) hxl
    have f2 := atV (n - st - m - 1) (by omega)
    rw [show a + (st - a) = st by omega, hx, e1] at f1
    rw [show m + (n - st - m - 1) = n - 1 - st by omega, hy, e2] at f2
    injection f1 with f1
    injection f2 with f2
    rw [← f1, ← f2]; exact e3
def MPost (W0 : World) (g N c : Nat) (p s0 q : List It) (W : World) (e : Ending) (w' : World) : Prop := e = .returned (.tuple #[]) ∧ (∃ s, Row w' W0.heap.size g N c (p ++ (s ++ q)) ∧ Stb ltI s0 s) ∧ W.grownBy w' (some g)
def snd : Code → Code
 | .seq _ y => y
 | _ => .skip
noncomputable def tail : Code := snd (snd (snd (snd (snd (snd (snd (snd (snd (Tryz.f158.body.getD .skip)))))))))
set_option maxHeartbeats 16000000 in
set_option maxRecDepth 100000 in
theorem tailC {W0 : World} {ad : Addr} {g N c K : Nat} {p u v q ua ub va vb : List It} {W wr : World} {a m b mid st en : Nat} (HIH : Hid (∀ (p u v q : List It) (W : World) (a m b : Nat), u.length + v.length < K → 0 < u.length → 0 < v.length → a = p.length → m = a + u.length → b = m + v.length → Sorted ltI u → Sorted ltI v → Short u → Short v → Below W0.heap.size W0 W → Row W W0.heap.size g N c (p ++ (u ++ (v ++ q))) → Calls Tryz.prog 158 #[.slice (some ⟨g, 0, none⟩) N c, .int .i64 (a : Nat), .int .i64 (m : Nat), .int .i64 (b : Nat), .func (.func 110) #[] #[]] W (MPost W0 g N c p (u ++ v) q W))) (hN : N ≤ 1000000) (HB : Hid (Below W0.heap.size W0 W)) (HNG : Hid (W0.heap.size ≤ g)) (HAD : Hid (ad = ⟨g, 0, none⟩))
  (hst2 : a ≤ st ∧ st ≤ m ∧ st ≤ mid ∧ m ≤ en ∧ en ≤ b ∧ en + st = mid + m) (hmd : a < mid ∧ mid < b) (hbN : b ≤ N) (HLEN : Hid (ua.length = st - a ∧ ub.length = m - st ∧ va.length = en - m ∧ vb.length = b - en))
  (HSO : Hid (Sorted ltI (ua ++ ub) ∧ Sorted ltI (va ++ vb) ∧ Short (ua ++ ub) ∧ Short (va ++ vb))) (HPU : Hid (a = p.length ∧ (ua ++ ub).length + (va ++ vb).length ≤ K))
  (HCU : Hid ((∀ x y, ua.getLast? = some x → vb.head? = some y → ltI y x = false) ∧ (∀ y x, va.getLast? = some y → ub.head? = some x → ltI y x = true))) (HUV : Hid (u ++ v = ua ++ ub ++ (va ++ vb)))
  (HR1 : Hid (Row wr W0.heap.size g N c (p ++ (ua ++ (ub ++ (va ++ (vb ++ q))))))) (HG : Hid (W.grownBy wr (some g))) {t5 t6 t7 t8 t9 t10 t11 t12 t13 t14 t15 t16 t17 t19 t21 t22 t23 t25 t26 t27 t28 t29 t30 t31 t32 t33 t34 t35 t36 t37 t38 t39 t40 t41 t42 t43 t44 t45 t46 t47 t48 t49 t50 t51 t52 t53 t54 t55 t56 t57 t58 t59 t60 t61 t62 t63 t64 t65 t66 t67 t68 t69 t70 t71 t72 t73 t74 t75 t76 t77 t78 t79 t80 t81 t82 t83 t84 t85 t86 t87 t88 t89 t90 t91 t92 t93 t94 t95 t96 t97 t98 t99 t100 t101 t102 t103 t104 t105 t106 t107 t108 t109 t110 t111 t112 t113 t114 t115 t116 t117 t118 t119 t120 t121 t122 t123 t124 t125 t126 t127 t128 t129 t130 t131 t132 t133 t134 t135 t136 t137 t138 t139 t140 t141 t142 t143 t144 t145 t146 t147 t148 t149 t150 t151 t152 t153 t154 t155 t156 t157 t158 t159 t160 t161 t162 t163 t164 t165 t166 t167 t168 t169 t170 t171 t172 t173 t174 t175 t176 t177 t178 t179 t180 t181 t182 t183 t184 t185 t186 t187 t188 t189 t190 t191 t192 t193 t194 t195 t196 t197 t198 t199 t200 t201 t202 t203 t204 t205 t206 t207 t208 t209 t210 t211 t212 t213 t214 t215 t216 t217 t218 t219 : Value} :
  Code.wp Tryz.prog tail (bodyPost Tryz.prog Tryz.f158 (MPost W0 g N c p (u ++ v) q W)) ⟨List.toArray (.slice (some ad) N c :: .int .i64 a :: .int .i64 m :: .int .i64 b :: .func (.func 110) #[] #[] :: t5 :: t6 :: t7 :: t8 :: t9 :: t10 :: t11 :: t12 :: t13 :: t14 :: t15 :: t16 :: t17 :: .int .i64 mid :: t19 :: .int .i64 st :: t21 :: t22 :: t23 :: .int .i64 en :: t25 :: t26 :: t27 :: t28 :: t29 :: t30 :: t31 :: t32 :: t33 :: t34 :: t35 :: t36 :: t37 :: t38 :: t39 :: t40 :: t41 :: t42 :: t43 :: t44 :: t45 :: t46 :: t47 :: t48 :: t49 :: t50 :: t51 :: t52 :: t53 :: t54 :: t55 :: t56 :: t57 :: t58 :: t59 :: t60 :: t61 :: t62 :: t63 :: t64 :: t65 :: t66 :: t67 :: t68 :: t69 :: t70 :: t71 :: t72 :: t73 :: t74 :: t75 :: t76 :: t77 :: t78 :: t79 :: t80 :: t81 :: t82 :: t83 :: t84 :: t85 :: t86 :: t87 :: t88 :: t89 :: t90 :: t91 :: t92 :: t93 :: t94 :: t95 :: t96 :: t97 :: t98 :: t99 :: t100 :: t101 :: t102 :: t103 :: t104 :: t105 :: t106 :: t107 :: t108 :: t109 :: t110 :: t111 :: t112 :: t113 :: t114 :: t115 :: t116 :: t117 :: t118 :: t119 :: t120 :: t121 :: t122 :: t123 :: t124 :: t125 :: t126 :: t127 :: t128 :: t129 :: t130 :: t131 :: t132 :: t133 :: t134 :: t135 :: t136 :: t137 :: t138 :: t139 :: t140 :: t141 :: t142 :: t143 :: t144 :: t145 :: t146 :: t147 :: t148 :: t149 :: t150 :: t151 :: t152 :: t153 :: t154 :: t155 :: t156 :: t157 :: t158 :: t159 :: t160 :: t161 :: t162 :: t163 :: t164 :: t165 :: t166 :: t167 :: t168 :: t169 :: t170 :: t171 :: t172 :: t173 :: t174 :: t175 :: t176 :: t177 :: t178 :: t179 :: t180 :: t181 :: t182 :: t183 :: t184 :: t185 :: t186 :: t187 :: t188 :: t189 :: t190 :: t191 :: t192 :: t193 :: t194 :: t195 :: t196 :: t197 :: t198 :: t199 :: t200 :: t201 :: t202 :: t203 :: t204 :: t205 :: t206 :: t207 :: t208 :: t209 :: t210 :: t211 :: t212 :: t213 :: t214 :: t215 :: t216 :: t217 :: t218 :: t219 :: []), []⟩ wr := by
 conv => arg 2; whnf
 refine wp_seq_k (fun K1 h1 => ?_)
 have H1 := Lib.hid h1
 clear h1
 go_cut [] (fun wx => Hid (Row wx W0.heap.size g N c (p ++ (ua ++ (va ++ (ub ++ (vb ++ q)))))) ∧ Hid (W.grownBy wx (some g)))
 case first =>
  by_cases h1 : st < m
  ·
   have j1 : (st : Int) < (m : Int) := i_lt h1
   have k1 : decide ((st : Int) < (m : Int)) = true := decide_eq_true j1
   by_cases h2 : m < en
   ·
    have j2 : (m : Int) < (en : Int) := i_lt h2
    have k2 : decide ((m : Int) < (en : Int)) = true := decide_eq_true j2
    have hl := HLEN.out
    have hC := rotate_any W0.heap.size g N c st m en (.func (.func 110) #[] #[]) (p ++ ua) ub va (vb ++ q) wr hN (by rw [List.length_append]; have := HPU.out; omega) (by omega) (by omega) (by omega) (by omega) (by rw [List.append_assoc]; exact HR1.out)
    have HC := Lib.hid hC
    clear hC hl
    go_wp2_with fail
    rw [← HAD.out] at HC
    refine HC.out.mono ?_
    rintro e w2 ⟨rfl, h2, h3⟩
    rw [List.append_assoc] at h2
    have HR2 := Lib.hid h2
    have HG2 := Lib.hid (grown_trans HG.out h3)
    clear h2 h3 HC
    go_wp2
    go_meet
    case rel => exact ⟨HR2, HG2⟩
   ·
    have j2 : ¬ (m : Int) < (en : Int) := by omega
    have k2 : decide ((m : Int) < (en : Int)) = false := decide_eq_false j2
    have hbt : ¬ st < m ∨ ¬ m < en := .inr h2
    have HR2 : Hid (Row wr W0.heap.size g N c (p ++ (ua ++ (va ++ (ub ++ (vb ++ q)))))) := Lib.hid (by
     have hl := HLEN.out
     have h := HR1.out
     rcases hbt with e | e
     ·
      have : ub = [] := List.eq_nil_of_length_eq_zero (by omega)
      subst this; simpa using h
     ·
      have : va = [] := List.eq_nil_of_length_eq_zero (by omega)
      subst this; simpa using h)
    clear hbt
    go_wp2
    go_meet
    case rel => exact ⟨HR2, HG⟩
  ·
   have j1 : ¬ (st : Int) < (m : Int) := by omega
   have k1 : decide ((st : Int) < (m : Int)) = false := decide_eq_false j1
   have hbt : ¬ st < m ∨ ¬ m < en := .inl h1
   have HR2 : Hid (Row wr W0.heap.size g N c (p ++ (ua ++ (va ++ (ub ++ (vb ++ q)))))) := Lib.hid (by
    have hl := HLEN.out
    have h := HR1.out
    rcases hbt with e | e
    ·
     have : ub = [] := List.eq_nil_of_length_eq_zero (by omega)
     subst this; simpa using h
    ·
     have : va = [] := List.eq_nil_of_length_eq_zero (by omega)
     subst this; simpa using h)
   clear hbt
   go_wp2
   go_meet
   case rel => exact ⟨HR2, HG⟩
 case rest =>
  clear HR1 HG
  obtain ⟨HR2, HG2⟩ := hcut
  refine H1.out _ _ ?_
  clear H1
  refine wp_seq_k (fun K1 h1 => ?_)
  have H1 := Lib.hid h1
  clear h1
  go_cut [] (fun wx => (∃ s1, Hid (Stb ltI (ua ++ va) s1) ∧ Hid (Row wx W0.heap.size g N c (p ++ (s1 ++ (ub ++ (vb ++ q)))))) ∧ Hid (W.grownBy wx (some g)))
  case first =>
   by_cases h1 : a < st
   ·
    have j1 : (a : Int) < (st : Int) := i_lt h1
    have k1 : decide ((a : Int) < (st : Int)) = true := decide_eq_true j1
    by_cases h2 : st < mid
    ·
     have j2 : (st : Int) < (mid : Int) := i_lt h2
     have k2 : decide ((st : Int) < (mid : Int)) = true := decide_eq_true j2
     have hl := HLEN.out
     have hs := HSO.out
     have hp := HPU.out
     simp only [List.length_append] at hp
     have hC := HIH.out p ua va (ub ++ (vb ++ q)) wc a st mid (by omega) (by omega) (by omega) hp.1 (by omega) (by omega) (Sorted.left hs.1) (Sorted.left hs.2.1) (fun x hx => hs.2.2.1 x (List.mem_append_left _ hx)) (fun x hx => hs.2.2.2 x (List.mem_append_left _ hx)) (below_row HB.out HG2.out HNG.out) HR2.out
     have HC := Lib.hid hC
     clear hC hl hs hp
     go_wp2_with fail
     rw [← HAD.out] at HC
     refine HC.out.mono ?_
     rintro e w3 ⟨rfl, ⟨s1, h2, h4⟩, h3⟩
     have HR3 := Lib.hid h2
     have HS1 := Lib.hid h4
     have HG3 := Lib.hid (grown_trans HG2.out h3)
     clear h2 h3 h4 HC
     go_wp2
     go_meet
     case rel => exact ⟨⟨s1, HS1, HR3⟩, HG3⟩
    ·
     have j2 : ¬ (st : Int) < (mid : Int) := by omega
     have k2 : decide ((st : Int) < (mid : Int)) = false := decide_eq_false j2
     have hbt : ¬ a < st ∨ ¬ st < mid := .inr h2
     have HS1 : Hid (Stb ltI (ua ++ va) (ua ++ va)) := Lib.hid (by
      have hl := HLEN.out
      have hs := HSO.out
      rcases hbt with e | e
      ·
       have : ua = [] := List.eq_nil_of_length_eq_zero (by omega)
       subst this; exact Stb.refl (by simpa using Sorted.left hs.2.1)
      ·
       have : va = [] := List.eq_nil_of_length_eq_zero (by omega)
       subst this; exact Stb.refl (by simpa using Sorted.left hs.1))
     have HR3 : Hid (Row wc W0.heap.size g N c (p ++ ((ua ++ va) ++ (ub ++ (vb ++ q))))) := Lib.hid (by rw [List.append_assoc]; exact HR2.out)
     clear hbt
     go_wp2
     go_meet
     case rel => exact ⟨⟨_, HS1, HR3⟩, HG2⟩
   ·
    have j1 : ¬ (a : Int) < (st : Int) := by omega
    have k1 : decide ((a : Int) < (st : Int)) = false := decide_eq_false j1
    have hbt : ¬ a < st ∨ ¬ st < mid := .inl h1
    have HS1 : Hid (Stb ltI (ua ++ va) (ua ++ va)) := Lib.hid (by
     have hl := HLEN.out
     have hs := HSO.out
     rcases hbt with e | e
     ·
      have : ua = [] := List.eq_nil_of_length_eq_zero (by omega)
      subst this; exact Stb.refl (by simpa using Sorted.left hs.2.1)
     ·
      have : va = [] := List.eq_nil_of_length_eq_zero (by omega)
      subst this; exact Stb.refl (by simpa using Sorted.left hs.1))
    have HR3 : Hid (Row wc W0.heap.size g N c (p ++ ((ua ++ va) ++ (ub ++ (vb ++ q))))) := Lib.hid (by rw [List.append_assoc]; exact HR2.out)
    clear hbt
    go_wp2
    go_meet
    case rel => exact ⟨⟨_, HS1, HR3⟩, HG2⟩
  case rest =>
   clear HR2 HG2
   obtain ⟨⟨s1, HS1, HR3⟩, HG3⟩ := hcut
   refine H1.out _ _ ?_
   clear H1
   by_cases h1 : mid < en
   ·
    have j1 : (mid : Int) < (en : Int) := i_lt h1
    have k1 : decide ((mid : Int) < (en : Int)) = true := decide_eq_true j1
    by_cases h2 : en < b
    ·
     have j2 : (en : Int) < (b : Int) := i_lt h2
     have k2 : decide ((en : Int) < (b : Int)) = true := decide_eq_true j2
     have hl := HLEN.out
     have hs := HSO.out
     have hp := HPU.out
     have h1l := HS1.out.1.1
     simp only [List.length_append] at hp h1l
     have hC := HIH.out (p ++ s1) ub vb q wc mid en b (by omega) (by omega) (by omega) (by rw [List.length_append]; omega) (by omega) (by omega) (Sorted.right hs.1) (Sorted.right hs.2.1) (fun x hx => hs.2.2.1 x (List.mem_append_right _ hx)) (fun x hx => hs.2.2.2 x (List.mem_append_right _ hx)) (below_row HB.out HG3.out HNG.out) (by rw [List.append_assoc]; exact HR3.out)
     have HC := Lib.hid hC
     clear hC hl hs hp h1l
     go_wp2_with fail
     rw [← HAD.out] at HC
     refine HC.out.mono ?_
     rintro e w4 ⟨rfl, ⟨s2, h2, h4⟩, h3⟩
     have HR4 : Hid (Row w4 W0.heap.size g N c (p ++ ((s1 ++ s2) ++ q))) := Lib.hid (by simpa using h2)
     have HS2 : Hid (Stb ltI (u ++ v) (s1 ++ s2)) := Lib.hid (by
      rw [HUV.out]
      exact cross swoI HSO.out.1 HSO.out.2.1 HCU.out.1 HCU.out.2 HS1.out h4)
     have HG4 := Lib.hid (grown_trans HG3.out h3)
     clear h2 h3 h4 HC
     go_wp2
     go_end0
     exact ⟨rfl, ⟨_, HR4.out, HS2.out⟩, HG4.out⟩
    ·
     have j2 : ¬ (en : Int) < (b : Int) := by omega
     have k2 : decide ((en : Int) < (b : Int)) = false := decide_eq_false j2
     have hbt : ¬ mid < en ∨ ¬ en < b := .inr h2
     have HS2 : Hid (Stb ltI (u ++ v) (s1 ++ (ub ++ vb))) := Lib.hid (by
      rw [HUV.out]
      refine cross swoI HSO.out.1 HSO.out.2.1 HCU.out.1 HCU.out.2 HS1.out ?_
      have hl := HLEN.out
      have hs := HSO.out
      rcases hbt with e | e
      ·
       have : ub = [] := List.eq_nil_of_length_eq_zero (by omega)
       subst this; exact Stb.refl (by simpa using Sorted.right hs.2.1)
      ·
       have : vb = [] := List.eq_nil_of_length_eq_zero (by omega)
       subst this; exact Stb.refl (by simpa using Sorted.right hs.1))
     have HR4 : Hid (Row wc W0.heap.size g N c (p ++ ((s1 ++ (ub ++ vb)) ++ q))) := Lib.hid (by
      have h := HR3.out
      simpa using h)
     clear hbt
     go_wp2
     go_end0
     exact ⟨rfl, ⟨_, HR4.out, HS2.out⟩, HG3.out⟩
   ·
    have j1 : ¬ (mid : Int) < (en : Int) := by omega
    have k1 : decide ((mid : Int) < (en : Int)) = false := decide_eq_false j1
    have hbt : ¬ mid < en ∨ ¬ en < b := .inl h1
    have HS2 : Hid (Stb ltI (u ++ v) (s1 ++ (ub ++ vb))) := Lib.hid (by
     rw [HUV.out]
     refine cross swoI HSO.out.1 HSO.out.2.1 HCU.out.1 HCU.out.2 HS1.out ?_
     have hl := HLEN.out
     have hs := HSO.out
     rcases hbt with e | e
     ·
      have : ub = [] := List.eq_nil_of_length_eq_zero (by omega)
      subst this; exact Stb.refl (by simpa using Sorted.right hs.2.1)
     ·
      have : vb = [] := List.eq_nil_of_length_eq_zero (by omega)
      subst this; exact Stb.refl (by simpa using Sorted.right hs.1))
    have HR4 : Hid (Row wc W0.heap.size g N c (p ++ ((s1 ++ (ub ++ vb)) ++ q))) := Lib.hid (by
     have h := HR3.out
     simpa using h)
    clear hbt
    go_wp2
    go_end0
    exact ⟨rfl, ⟨_, HR4.out, HS2.out⟩, HG3.out⟩
end Go.Proofs.YtibmfjacfbpfgaaGreatDoor.SortMrgC
/- sort: symMerge, the general step. -/
namespace Go.Proofs.YtibmfjacfbpfgaaGreatDoor.SortMrgD
open Go.RowKit YtibmfjacfbpfgaaGreatDoorW.PrintWords YtibmfjacfbpfgaaGreatDoorW.PrintLast YtibmfjacfbpfgaaGreatDoorW.PrintMore YtibmfjacfbpfgaaGreatDoor.Item Own Stab SortLaw TreeLaw NameWalk SortSwap SortIns SortMrgA SortMrgB SortMrgC
set_option maxHeartbeats 16000000 in
set_option maxRecDepth 100000 in
theorem mergeC (W0 : World) (hgl : Glob W0) (g N c K : Nat) (hN : N ≤ 1000000) (hih : ∀ (p u v q : List It) (W : World) (a m b : Nat), u.length + v.length < K → 0 < u.length → 0 < v.length → a = p.length → m = a + u.length → b = m + v.length → Sorted ltI u → Sorted ltI v → Short u → Short v → Below W0.heap.size W0 W → Row W W0.heap.size g N c (p ++ (u ++ (v ++ q))) → Calls Tryz.prog 158 #[.slice (some ⟨g, 0, none⟩) N c, .int .i64 (a : Nat), .int .i64 (m : Nat), .int .i64 (b : Nat), .func (.func 110) #[] #[]] W (MPost W0 g N c p (u ++ v) q W))
  (p u v q : List It) (W : World) (a m b : Nat) (hK : u.length + v.length ≤ K) (hu : 2 ≤ u.length) (hv : 2 ≤ v.length) (ha : a = p.length) (hm : m = a + u.length) (hb : b = m + v.length) (hsu : Sorted ltI u) (hsv : Sorted ltI v) (hzu : Short u) (hzv : Short v) (hB : Below W0.heap.size W0 W) (h : Row W W0.heap.size g N c (p ++ (u ++ (v ++ q)))) :
  Calls Tryz.prog 158 #[.slice (some ⟨g, 0, none⟩) N c, .int .i64 (a : Nat), .int .i64 (m : Nat), .int .i64 (b : Nat), .func (.func 110) #[] #[]] W (MPost W0 g N c p (u ++ v) q W) := by
 have HIH := Lib.hid hih
 obtain ⟨ad, had⟩ : ∃ ad : Addr, ad = ⟨g, 0, none⟩ := ⟨_, rfl⟩
 rw [← had]
 have HAD := Lib.hid had
 have HGL := Lib.hid hgl
 have HB := Lib.hid hB
 have HNG := Lib.hid h.base
 have HR0 := Lib.hid h
 have HGO := Lib.hid (grown_refl W (some g))
 have hlen := h.1
 simp only [List.length_append] at hlen
 obtain ⟨mid, hmid⟩ : ∃ mid, mid = (a + b) / 2 := ⟨_, rfl⟩
 obtain ⟨n, hn⟩ : ∃ n, n = mid + m := ⟨_, rfl⟩
 obtain ⟨L, hL⟩ : ∃ L, L = p ++ (u ++ (v ++ q)) := ⟨_, rfl⟩
 rw [← hL] at HR0
 have hmidI := h_mid hmid
 have HG := Lib.hid HGO.out
 have HF := Lib.hid (show a = p.length ∧ m = a + u.length ∧ b = m + v.length ∧ mid = (a + b) / 2 ∧ n = mid + m ∧ L = p ++ (u ++ (v ++ q)) ∧ u.length + v.length ≤ K from ⟨ha, hm, hb, hmid, hn, hL, hK⟩)
 have HS := Lib.hid (And.intro hsu (And.intro hsv (And.intro hzu hzv)))
 have hbN : b ≤ N := by omega
 have f1 : a < mid ∧ mid < b ∧ a < m ∧ m < b := by omega
 have f2 : a + 2 ≤ m ∧ m + 2 ≤ b := by omega
 have q0 : ((m : Int) - (a : Int) == 1) = false := beq_eq_false_iff_ne.2 (by omega)
 have q00 : ((b : Int) - (m : Int) == 1) = false := beq_eq_false_iff_ne.2 (by omega)
 have HC := Lib.hid (show n = mid + m ∧ mid = (a + b) / 2 from ⟨hn, hmid⟩)
 have HAT : Hid (∀ k, k < N → ∃ x, L[k]? = some x) := Lib.hid (fun k hk => ⟨_, List.getElem?_eq_getElem (by have := h.1; rw [← hL] at this; omega)⟩)
 have HATS : Hid (∀ k x, a ≤ k → k < b → L[k]? = some x → x.1.size < 4294967281) := Lib.hid (fun k x h1 h2 h3 => by
  rcases Nat.lt_or_ge k m with hk | hk
  ·
   have e := in_left (p := p) (u := u) (q := v ++ q) (k := k - a) (by omega)
   rw [← hL, show p.length + (k - a) = k by omega, h3] at e
   exact hzu x (List.mem_of_getElem? e.symm)
  ·
   have e := in_left (p := p ++ u) (u := v) (q := q) (k := k - m) (by omega)
   rw [List.append_assoc, ← hL, show (p ++ u).length + (k - m) = k by rw [List.length_append]; omega, h3] at e
   exact hzv x (List.mem_of_getElem? e.symm))
 clear had hgl hB h ha hb hm hmid hn hL hsu hsv hzu hzv hlen hih hu hv hK HGO
 go_enter Tryz.func158, Tryz.ntmps158
 go_upto_if 140 with fail
 go_cut [20, 21] (fun v20 v21 wx => (∃ s0 r0 : Nat, v20 = .int .i64 s0 ∧ v21 = .int .i64 r0 ∧ Hid (a ≤ s0 ∧ n ≤ b + s0 ∧ r0 ≤ mid ∧ r0 ≤ m ∧ s0 ≤ r0 ∧ (s0 = a ∨ s0 + b = n) ∧ (r0 = mid ∨ r0 = m))) ∧ W = wx)
 case first =>
  by_cases hmm : mid < m
  ·
   have hmmI : (mid : Int) < (m : Int) := i_lt hmm
   have e1 : (mid : Int) + (m : Int) - (b : Int) = ((mid + m - b : Nat) : Int) := by have := HC.out; omega
   have HE1 := Lib.hid e1
   clear e1
   go_wp2
   go_meet
   case rel => exact ⟨⟨mid + m - b, mid, by rw [← HE1.out], rfl, Lib.hid (by have := HC.out; omega)⟩, rfl⟩
  ·
   have hmmI : ¬ (mid : Int) < (m : Int) := by omega
   go_wp2
   go_meet
   case rel => exact ⟨⟨a, m, rfl, rfl, Lib.hid (by have := HC.out; omega)⟩, rfl⟩
 case rest =>
  obtain ⟨⟨s0, r0, rfl, rfl, HSR⟩, rfl⟩ := hcut
  obtain ⟨F, hF⟩ : ∃ F, F = r0 := ⟨_, rfl⟩
  have hFr : r0 ≤ s0 + F := by omega
  have hsr := HSR.out.2.2.2.2.1
  have hr0 : r0 ≤ m ∧ r0 ≤ mid := ⟨HSR.out.2.2.2.1, HSR.out.2.2.1⟩
  clear hF
  go_wp2
  go_loopg [20, 21, 23] F (fun gg vs vr vc wr => ∃ st r : Nat, vs = .int .i64 st ∧ vr = .int .i64 r ∧ s0 ≤ st ∧ st ≤ r ∧ r ≤ r0 ∧ r ≤ st + gg ∧ Hid ((st = s0 ∨ ∃ x y, L[st - 1]? = some x ∧ L[n - st]? = some y ∧ ltI y x = false) ∧ (r = r0 ∨ ∃ x y, L[r]? = some x ∧ L[n - 1 - r]? = some y ∧ ltI y x = true)) ∧ Hid (Row wr W0.heap.size g N c L) ∧ Hid (W.grownBy wr (some g)))
  case atStart => exact ⟨s0, r0, rfl, rfl, Nat.le_refl _, hsr, Nat.le_refl _, hFr, Lib.hid ⟨.inl rfl, .inl rfl⟩, HR0, HG⟩
  case round =>
   clear HR0 HG hFr
   obtain ⟨st, r, rfl, rfl, hss, hsr1, hrr, hrg, HI, HR, HG⟩ := hrel
   by_cases hlt : st < r
   ·
    have hltI : (st : Int) < (r : Int) := i_lt hlt
    obtain ⟨cc, hcc⟩ : ∃ h, h = (st + r) / 2 := ⟨_, rfl⟩
    have hccI := h_mid hcc
    have hcij := mid_in hcc hlt
    obtain ⟨pc, hpc⟩ : ∃ pc, pc = n - 1 - cc := ⟨_, rfl⟩
    have hsf := HSR.out
    have hcf := HC.out
    have hpcI : (mid : Int) + (m : Int) - 1 - (cc : Int) = (pc : Int) := by omega
    have hpb : a ≤ pc ∧ pc < b ∧ a ≤ cc ∧ cc < b := by omega
    obtain ⟨x, hx⟩ := HAT.out cc (by omega)
    obtain ⟨y, hy⟩ := HAT.out pc (by omega)
    obtain ⟨x0, x1, x2, x3, x4, x5, x6, x7⟩ := x
    obtain ⟨y0, y1, y2, y3, y4, y5, y6, y7⟩ := y
    have HX := Lib.hid hx
    have HY := Lib.hid hy
    have HSX : Hid (x0.size < 4294967281) := Lib.hid (HATS.out cc (x0, x1, x2, x3, x4, x5, x6, x7) hpb.2.2.1 hpb.2.2.2 hx)
    have HSY : Hid (y0.size < 4294967281) := Lib.hid (HATS.out pc (y0, y1, y2, y3, y4, y5, y6, y7) hpb.1 hpb.2.1 hy)
    have HLT : Hid (ltI (y0, y1, y2, y3, y4, y5, y6, y7) (x0, x1, x2, x3, x4, x5, x6, x7) = decide (orderT y0 x0 < 0)) := Lib.hid rfl
    have qc : (cc : Int) < (N : Int) := i_lt (by omega)
    have qp : (pc : Int) < (N : Int) := i_lt (by omega)
    have hpcN : pc ≤ N := by omega
    have HPC := Lib.hid hpc
    clear hcc hpc hsf hcf hpb hx hy
    have wpc := w_le hpcN hN
    obtain ⟨e0, e1, e2, e3, e4, e5, e6, e7⟩ := row_load HR.out HAD.out HY.out
    obtain ⟨f0, f1, f2, f3, f4, f5, f6, f7⟩ := row_load HR.out HAD.out HX.out
    simp only at e0 e1 e2 e3 e4 e5 e6 e7 f0 f1 f2 f3 f4 f5 f6 f7
    go_wp2_with fail
    refine start_ (n := 14) (S := fun w' => w'.cell? (ad.add (pc * 8)) = some (.string y0) ∧ w'.cell? ⟨(ad.add (pc * 8)).block, (ad.add (pc * 8)).off + 1, none⟩ = some (.int .i64 y1) ∧ w'.cell? ⟨(ad.add (pc * 8)).block, (ad.add (pc * 8)).off + 2, none⟩ = some (.int .u32 y2) ∧ w'.cell? ⟨(ad.add (pc * 8)).block, (ad.add (pc * 8)).off + 3, none⟩ = some (.int .u32 y3) ∧ w'.cell? ⟨(ad.add (pc * 8)).block, (ad.add (pc * 8)).off + 4, none⟩ = some (.int .u32 y4) ∧ w'.cell? ⟨(ad.add (pc * 8)).block, (ad.add (pc * 8)).off + 5, none⟩ = some (.int .i64 y5) ∧ w'.cell? ⟨(ad.add (pc * 8)).block, (ad.add (pc * 8)).off + 6, none⟩ = some (.int .i64 y6) ∧ w'.cell? ⟨(ad.add (pc * 8)).block, (ad.add (pc * 8)).off + 7, none⟩ = some (.string y7) ∧ w'.cell? (ad.add (cc * 8)) = some (.string x0) ∧ w'.cell? ⟨(ad.add (cc * 8)).block, (ad.add (cc * 8)).off + 1, none⟩ = some (.int .i64 x1) ∧ w'.cell? ⟨(ad.add (cc * 8)).block, (ad.add (cc * 8)).off + 2, none⟩ = some (.int .u32 x2) ∧ w'.cell? ⟨(ad.add (cc * 8)).block, (ad.add (cc * 8)).off + 3, none⟩ = some (.int .u32 x3) ∧ w'.cell? ⟨(ad.add (cc * 8)).block, (ad.add (cc * 8)).off + 4, none⟩ = some (.int .u32 x4) ∧ w'.cell? ⟨(ad.add (cc * 8)).block, (ad.add (cc * 8)).off + 5, none⟩ = some (.int .i64 x5) ∧ w'.cell? ⟨(ad.add (cc * 8)).block, (ad.add (cc * 8)).off + 6, none⟩ = some (.int .i64 x6) ∧ w'.cell? ⟨(ad.add (cc * 8)).block, (ad.add (cc * 8)).off + 7, none⟩ = some (.string x7)) (ds := [11]) #[false, false, false, false, false, false, false, false, false, false, false, false, false, false] (by kernel_rfl) rfl rfl ⟨e0, e1, e2, e3, e4, e5, e6, e7, f0, f1, f2, f3, f4, f5, f6, f7⟩ (fun hHeld => ?_)
    have HRd := Lib.hid (Row.below HR.out (below_drew (Below.refl wr.heap.size wr)))
    have HGd := Lib.hid (grown_drew HG.out)
    generalize wr.drew = W1 at *
    refine pure_ (i := 0) (N := some 158) (v := ?_) (a' := ?_) #[true, false, false, false, false, false, false, false, false, false, false, false, false, false] rfl rfl (by kernel_rfl) (fun _ _ _ h => h) (Or.inl ⟨by rfl, ?_⟩) ?_ ?_
    rotate_left
    ·
     intro w'
     go_simp
     with_reducible rfl
    rotate_left
    ·
     simp only [Act.put, Own.na, Own.nz, Own.ns, i64_w, i32_w]
     rfl
    refine pure_ (i := 1) (N := some 159) (v := ?_) (a' := ?_) #[true, true, false, false, false, false, false, false, false, false, false, false, false, false] rfl rfl (by kernel_rfl) (fun _ _ _ h => h) (Or.inl ⟨by rfl, ?_⟩) ?_ ?_
    rotate_left
    ·
     intro w'
     go_simp
     with_reducible rfl
    rotate_left
    ·
     simp only [Act.put, Own.na, Own.nz, Own.ns, i64_w, i32_w]
     rfl
    refine pure_ (i := 2) (N := some 160) (v := ?_) (a' := ?_) #[true, true, true, false, false, false, false, false, false, false, false, false, false, false] rfl rfl (by kernel_rfl) (fun _ _ _ h => h) (Or.inl ⟨by rfl, ?_⟩) ?_ ?_
    rotate_left
    ·
     intro w'
     go_simp
     with_reducible rfl
    rotate_left
    ·
     simp only [Act.put, Own.na, Own.nz, Own.ns, i64_w, i32_w]
     rfl
    refine pure_ (i := 3) (N := some 161) (v := ?_) (a' := ?_) #[true, true, true, true, false, false, false, false, false, false, false, false, false, false] rfl rfl (by kernel_rfl) (fun _ _ _ h => h) (Or.inl ⟨by rfl, ?_⟩) ?_ ?_
    rotate_left
    ·
     intro w'
     go_simp
     with_reducible rfl
    rotate_left
    ·
     simp only [Act.put, Own.na, Own.nz, Own.ns, i64_w, i32_w]
     rfl
    refine pure_ (i := 4) (N := some 162) (v := ?_) (a' := ?_) #[true, true, true, true, true, false, false, false, false, false, false, false, false, false] rfl rfl (by kernel_rfl) (fun _ _ _ h => h) (Or.inl ⟨by rfl, ?_⟩) ?_ ?_
    rotate_left
    ·
     intro w'
     go_simp
     with_reducible rfl
    rotate_left
    ·
     simp only [Act.put, Own.na, Own.nz, Own.ns, i64_w, i32_w]
     rfl
    refine pure_ (i := 5) (N := some 163) (v := ?_) (a' := ?_) #[true, true, true, true, true, true, false, false, false, false, false, false, false, false] rfl rfl (by kernel_rfl) (fun _ _ _ h => h) (Or.inl ⟨by rfl, ?_⟩) ?_ ?_
    rotate_left
    ·
     intro w'
     go_simp
     with_reducible rfl
    rotate_left
    ·
     simp only [Act.put, Own.na, Own.nz, Own.ns, i64_w, i32_w]
     rfl
    refine pure_ (i := 7) (N := some 165) (v := ?_) (a' := ?_) #[true, true, true, true, true, true, false, true, false, false, false, false, false, false] rfl rfl (by kernel_rfl) (fun _ _ _ h => h) (Or.inl ⟨by rfl, ?_⟩) ?_ ?_
    rotate_left
    ·
     intro w'
     go_simp
     with_reducible rfl
    rotate_left
    ·
     simp only [Act.put, Own.na, Own.nz, Own.ns, i64_w, i32_w]
     rfl
    refine pure_ (i := 8) (N := some 166) (v := ?_) (a' := ?_) #[true, true, true, true, true, true, false, true, true, false, false, false, false, false] rfl rfl (by kernel_rfl) (fun _ _ _ h => h) (Or.inl ⟨by rfl, ?_⟩) ?_ ?_
    rotate_left
    ·
     intro w'
     go_simp
     with_reducible rfl
    rotate_left
    ·
     simp only [Act.put, Own.na, Own.nz, Own.ns, i64_w, i32_w]
     rfl
    refine pure_ (i := 9) (N := some 167) (v := ?_) (a' := ?_) #[true, true, true, true, true, true, false, true, true, true, false, false, false, false] rfl rfl (by kernel_rfl) (fun _ _ _ h => h) (Or.inl ⟨by rfl, ?_⟩) ?_ ?_
    rotate_left
    ·
     intro w'
     go_simp
     with_reducible rfl
    rotate_left
    ·
     simp only [Act.put, Own.na, Own.nz, Own.ns, i64_w, i32_w]
     rfl
    refine take_ (i := 6) (N := some 164) (v := ?_) (a' := ?_) #[true, true, true, true, true, true, true, true, true, true, false, false, false, false] rfl rfl (by kernel_rfl) (fun _ _ _ h => h) (Or.inl ⟨by rfl, ?_⟩) hHeld ?_ ?_
    rotate_left
    ·
     rintro w' ⟨s0, s1, s2, s3, s4, s5, s6, s7, s8, s9, s10, s11, s12, s13, s14, s15⟩
     go_simp
     with_reducible rfl
    rotate_left
    ·
     simp only [Act.put, Own.na, Own.nz, Own.ns, i64_w, i32_w]
     rfl
    refine take_ (i := 10) (N := some 168) (v := ?_) (a' := ?_) #[true, true, true, true, true, true, true, true, true, true, true, false, false, false] rfl rfl (by kernel_rfl) (fun _ _ _ h => h) (Or.inl ⟨by rfl, ?_⟩) hHeld ?_ ?_
    rotate_left
    ·
     rintro w' ⟨s0, s1, s2, s3, s4, s5, s6, s7, s8, s9, s10, s11, s12, s13, s14, s15⟩
     go_simp
     with_reducible rfl
    rotate_left
    ·
     simp only [Act.put, Own.na, Own.nz, Own.ns, i64_w, i32_w]
     rfl
    refine last_ (i := 11) (N := some 169) #[true, true, true, true, true, true, true, true, true, true, true, true, false, false] rfl rfl (by kernel_rfl) (by decide) (fun K hK => ?_)
    refine goesC_ (x := 158) (fn := Tryz.f110) (f := 110) Tryz.func110 (by kernel_rfl) rfl #[.agg #[.string y0, .int .i64 y1, .int .u32 y2, .int .u32 y3, .int .u32 y4, .int .i64 y5, .int .i64 y6, .string y7], .agg #[.string x0, .int .i64 x1, .int .u32 x2, .int .u32 x3, .int .u32 x4, .int .i64 x5, .int .i64 x6, .string x7]] (by rfl) rfl rfl rfl (by simp only [List.map_toArray, List.map_cons, List.map_nil]; rfl) ?_
    with_reducible refine (cmp_any y0 y1 y2 y3 y4 y5 y6 y7 x0 x1 x2 x3 x4 x5 x6 x7 W1 (HGL.out.below (below_row HB.out HGd.out HNG.out)) HSY.out HSX.out).mono ?_
    rintro e W4 ⟨rfl, hbc⟩
    have HRc := Lib.hid (HRd.out.below hbc)
    have HGc := Lib.hid (grown_below HGd.out hbc)
    clear hbc
    refine ⟨_, rfl, ?_⟩
    generalize orderT y0 x0 = rr at *
    refine hK.out _ _ ?_
    clear hK K
    refine norm_ (a' := ?_) ?_ ?_
    rotate_left
    ·
     show Act.put _ (some 169) _ = _
     simp only [Act.put, Own.na, Own.nz, Own.ns, i64_w, i32_w]
     rfl
    refine pure_ (i := 12) (N := some 170) (v := ?_) (a' := ?_) #[true, true, true, true, true, true, true, true, true, true, true, true, true, false] rfl rfl (by kernel_rfl) (fun _ _ _ h => h) (Or.inl ⟨by rfl, ?_⟩) ?_ ?_
    rotate_left
    ·
     intro w'
     go_simp
     with_reducible rfl
    rotate_left
    ·
     simp only [Act.put, Own.na, Own.nz, Own.ns, i64_w, i32_w]
     rfl
    refine pure_ (i := 13) (N := some 171) (v := ?_) (a' := ?_) #[true, true, true, true, true, true, true, true, true, true, true, true, true, true] rfl rfl (by kernel_rfl) (fun _ _ _ h => h) (Or.inl ⟨by rfl, ?_⟩) ?_ ?_
    rotate_left
    ·
     intro w'
     go_simp
     with_reducible rfl
    rotate_left
    ·
     simp only [Act.put, Own.na, Own.nz, Own.ns, i64_w, i32_w]
     rfl
    refine done_ (by kernel_rfl) ?_
    clear e0 e1 e2 e3 e4 e5 e6 e7 f0 f1 f2 f3 f4 f5 f6 f7
    clear HR HRd HG HGd wpc
    obtain ⟨bb, hbb⟩ : ∃ bb, bb = decide (rr < 0) := ⟨_, rfl⟩
    rw [← hbb] at HLT ⊢
    clear hbb
    cases bb with
    | true =>
     have HI2 : Hid ((st = s0 ∨ ∃ x y, L[st - 1]? = some x ∧ L[n - st]? = some y ∧ ltI y x = false) ∧ (cc = r0 ∨ ∃ x y, L[cc]? = some x ∧ L[n - 1 - cc]? = some y ∧ ltI y x = true)) := Lib.hid ⟨HI.out.1, .inr ⟨(x0, x1, x2, x3, x4, x5, x6, x7), (y0, y1, y2, y3, y4, y5, y6, y7), HX.out, by rw [← HPC.out]; exact HY.out, HLT.out⟩⟩
     clear HI HX HY HSX HSY HLT
     go_wp2
     go_roundg (gk - 1)
     case measure => omega
     case rel => exact ⟨st, cc, rfl, rfl, hss, by omega, by omega, by omega, HI2, HRc, HGc⟩
    | false =>
     have HI2 : Hid ((cc + 1 = s0 ∨ ∃ x y, L[cc + 1 - 1]? = some x ∧ L[n - (cc + 1)]? = some y ∧ ltI y x = false) ∧ (r = r0 ∨ ∃ x y, L[r]? = some x ∧ L[n - 1 - r]? = some y ∧ ltI y x = true)) := Lib.hid ⟨.inr ⟨(x0, x1, x2, x3, x4, x5, x6, x7), (y0, y1, y2, y3, y4, y5, y6, y7), HX.out, by rw [show n - (cc + 1) = n - 1 - cc by omega, ← HPC.out]; exact HY.out, HLT.out⟩, HI.out.2⟩
     clear HI HX HY HSX HSY HLT
     go_wp2
     go_roundg (gk - 1)
     case measure => omega
     case rel => exact ⟨cc + 1, r, by go_num, rfl, by omega, by omega, hrr, by omega, HI2, HRc, HGc⟩
   ·
    have hltI : ¬ (st : Int) < (r : Int) := by omega
    have hre : st = r := by omega
    subst hre
    obtain ⟨en, hen⟩ : ∃ en, en = n - st := ⟨_, rfl⟩
    have hsf := HSR.out
    have hcf := HC.out
    have hff := HF.out
    have HEN := Lib.hid (show (mid : Int) + (m : Int) - (st : Int) = (en : Int) by omega)
    have hcut := cutC hff.2.2.2.2.2.1 hff.1 hff.2.1 hff.2.2.1 hff.2.2.2.2.1 hsf.1 hsf.2.1 hsf.2.2.1 hsf.2.2.2.1 hss hrr hsf.2.2.2.2.2.1 hsf.2.2.2.2.2.2 HI.out.1 HI.out.2
    obtain ⟨ua, hua⟩ : ∃ ua, ua = u.take (st - a) := ⟨_, rfl⟩
    obtain ⟨ub, hub⟩ : ∃ ub, ub = u.drop (st - a) := ⟨_, rfl⟩
    obtain ⟨va, hva⟩ : ∃ va, va = v.take (n - st - m) := ⟨_, rfl⟩
    obtain ⟨vb, hvb⟩ : ∃ vb, vb = v.drop (n - st - m) := ⟨_, rfl⟩
    have eu : u = ua ++ ub := by rw [hua, hub, List.take_append_drop]
    have ev : v = va ++ vb := by rw [hva, hvb, List.take_append_drop]
    rw [← hua, ← hub, ← hva, ← hvb] at hcut
    have HCU := Lib.hid hcut
    have HLEN := Lib.hid (show ua.length = st - a ∧ ub.length = m - st ∧ va.length = en - m ∧ vb.length = b - en by
     rw [hua, hub, hva, hvb, List.length_take, List.length_take, List.length_drop, List.length_drop]; omega)
    have HST := Lib.hid (show a ≤ st ∧ st ≤ m ∧ st ≤ mid ∧ m ≤ en ∧ en ≤ b ∧ en + st = mid + m by omega)
    have hst2 := HST.out
    have HSO : Hid (Sorted ltI (ua ++ ub) ∧ Sorted ltI (va ++ vb) ∧ Short (ua ++ ub) ∧ Short (va ++ vb)) := Lib.hid (by rw [← eu, ← ev]; exact HS.out)
    have HPU := Lib.hid (show a = p.length ∧ (ua ++ ub).length + (va ++ vb).length ≤ K by rw [← eu, ← ev]; exact ⟨hff.1, hff.2.2.2.2.2.2⟩)
    have HR1 : Hid (Row wr W0.heap.size g N c (p ++ (ua ++ (ub ++ (va ++ (vb ++ q)))))) := Lib.hid (by
     have h := HR.out
     rw [hff.2.2.2.2.2.1, eu, ev] at h
     simpa using h)
    have HUV := Lib.hid (show u ++ v = ua ++ ub ++ (va ++ vb) by rw [← eu, ← ev])
    clear hsf hcf hff hcut hua hub hva hvb eu ev HI HR hen HF HS HAT HATS HSR HC
    go_upto_region 38 with fail
    go_cut [24] (fun vt wx => vt = .int .i64 en ∧ wr = wx)
    case first =>
     go_wp2
     go_meet
     case rel => exact ⟨by rw [HEN.out], rfl⟩
    case rest =>
     obtain ⟨rfl, rfl⟩ := hcut
     go_step
     exact tailC HIH hN HB HNG HAD hst2 ⟨f1.1, f1.2.1⟩ hbN HLEN HSO HPU HCU HUV HR1 HG
end Go.Proofs.YtibmfjacfbpfgaaGreatDoor.SortMrgD
