/- sort: the comparison's contract; ranges swapped, rows rotated. -/
import Derived.Test.YtibmfjacfbpfgaaGreatDoorOwn
import Derived.Test.YtibmfjacfbpfgaaGreatDoorTreeLaw
set_option linter.unusedVariables false
set_option linter.unusedSimpArgs false
namespace Go.Proofs.YtibmfjacfbpfgaaGreatDoor.SortSwap
open Go.RowKit YtibmfjacfbpfgaaGreatDoorW.PrintWords YtibmfjacfbpfgaaGreatDoorW.PrintLast YtibmfjacfbpfgaaGreatDoorW.PrintMore YtibmfjacfbpfgaaGreatDoor.Item Own Stab SortLaw TreeLaw NameWalk
theorem grown_drew {U W : World} {row : Option Nat} (h : U.grownBy W row) : U.grownBy W.drew row := ⟨h.os, h.tape, h.output, h.size, h.block⟩
theorem grown_refl (W : World) (row : Option Nat) : W.grownBy W row := ⟨rfl, rfl, rfl, Nat.le_refl _, fun _ _ _ => rfl⟩
theorem grown_below {U W W1 : World} {row : Option Nat} (h : U.grownBy W row) (hb : Below W.heap.size W W1) : U.grownBy W1 row := grown_trans h ⟨hb.os, hb.tape, hb.output, hb.size, fun k hk _ => hb.block k hk⟩
theorem swr_step {p X m Y q : List It} {k : Nat} (h1 : k < X.length) (h2 : k < Y.length) (hm : X.length = Y.length) : ∃ x y,
  (p ++ (Y.take k ++ (X.drop k ++ (m ++ (X.take k ++ (Y.drop k ++ q))))))[p.length + k]? = some x ∧ (p ++ (Y.take k ++ (X.drop k ++ (m ++ (X.take k ++ (Y.drop k ++ q))))))[p.length + X.length + m.length + k]? = some y ∧
  ((p ++ (Y.take k ++ (X.drop k ++ (m ++ (X.take k ++ (Y.drop k ++ q)))))).set (p.length + k) y).set (p.length + X.length + m.length + k) x = p ++ (Y.take (k + 1) ++ (X.drop (k + 1) ++ (m ++ (X.take (k + 1) ++ (Y.drop (k + 1) ++ q))))) := by
 have e1 : X.drop k = X[k] :: X.drop (k + 1) := List.drop_eq_getElem_cons h1
 have e2 : Y.drop k = Y[k] :: Y.drop (k + 1) := List.drop_eq_getElem_cons h2
 have e3 : X.take (k + 1) = X.take k ++ [X[k]] := (List.take_append_getElem h1).symm
 have e4 : Y.take (k + 1) = Y.take k ++ [Y[k]] := (List.take_append_getElem h2).symm
 refine ⟨X[k], Y[k], ?_⟩
 have := swap_mid' (l := p ++ (Y.take k ++ (X.drop k ++ (m ++ (X.take k ++ (Y.drop k ++ q)))))) (p := p ++ Y.take k) (m := X.drop (k + 1) ++ (m ++ X.take k)) (q := Y.drop (k + 1) ++ q) (x := X[k]) (y := Y[k]) (i := p.length + k) (j := p.length + X.length + m.length + k)
  (by rw [e1, e2]; simp only [List.append_assoc, List.cons_append]) (by rw [List.length_append, List.length_take]; omega) (by simp only [List.length_append, List.length_drop, List.length_take]; omega)
 refine ⟨this.1, this.2.1, this.2.2.1.trans ?_⟩
 rw [e3, e4]
 simp only [List.append_assoc, List.cons_append, List.nil_append]
set_option maxHeartbeats 4000000 in
set_option maxRecDepth 100000 in
/-- Two rows of one length change places. -/
theorem swap_any (n g N c a b k : Nat) (cv : Value) (p X m Y q : List It) (W : World) (hN : N ≤ 1000000) (hm : X.length = Y.length) (ha : a = p.length) (hb : b = p.length + X.length + m.length) (hk : k = X.length) (h : Row W n g N c (p ++ (X ++ (m ++ (Y ++ q))))) :
  Calls Tryz.prog 179 #[.slice (some ⟨g, 0, none⟩) N c, .int .i64 a, .int .i64 b, .int .i64 k, cv] W fun e w' => e = .returned (.tuple #[]) ∧ Row w' n g N c (p ++ (Y ++ (m ++ (X ++ q)))) ∧ W.grownBy w' (some g) := by
 obtain ⟨ad, had⟩ : ∃ ad : Addr, ad = ⟨g, 0, none⟩ := ⟨_, rfl⟩
 rw [← had]
 have HAD := Lib.hid had
 have hlen := h.1
 simp only [List.length_append] at hlen
 have HST : Hid (∀ i, i < k → ∃ x y,
  (p ++ (Y.take i ++ (X.drop i ++ (m ++ (X.take i ++ (Y.drop i ++ q))))))[a + i]? = some x ∧ (p ++ (Y.take i ++ (X.drop i ++ (m ++ (X.take i ++ (Y.drop i ++ q))))))[b + i]? = some y ∧
  ((p ++ (Y.take i ++ (X.drop i ++ (m ++ (X.take i ++ (Y.drop i ++ q)))))).set (a + i) y).set (b + i) x = p ++ (Y.take (i + 1) ++ (X.drop (i + 1) ++ (m ++ (X.take (i + 1) ++ (Y.drop (i + 1) ++ q)))))) := Lib.hid (fun i hi => by
   rw [ha, hb]; exact swr_step (by omega) (by omega) hm)
 have HEND : Hid (p ++ (Y.take k ++ (X.drop k ++ (m ++ (X.take k ++ (Y.drop k ++ q))))) = p ++ (Y ++ (m ++ (X ++ q)))) := Lib.hid (by
  rw [List.take_of_length_le (by omega), List.drop_of_length_le (by omega), List.take_of_length_le (l := X) (by omega), List.drop_of_length_le (l := Y) (by omega)]; simp)
 obtain ⟨F, hF⟩ : ∃ F : Nat → List It, F = fun i => p ++ (Y.take i ++ (X.drop i ++ (m ++ (X.take i ++ (Y.drop i ++ q))))) := ⟨_, rfl⟩
 have HST : Hid (∀ i, i < k → ∃ x y, (F i)[a + i]? = some x ∧ (F i)[b + i]? = some y ∧ ((F i).set (a + i) y).set (b + i) x = F (i + 1)) := Lib.hid (by rw [hF]; exact HST.out)
 have HEND : Hid (F k = p ++ (Y ++ (m ++ (X ++ q)))) := Lib.hid (by rw [hF]; exact HEND.out)
 have HR0 : Hid (Row W n g N c (F 0)) := Lib.hid (by rw [hF]; simpa using h)
 have HGO := Lib.hid (grown_refl W (some g))
 have hak : a + k ≤ 1000000 := by omega
 have hbk : b + k ≤ N := by omega
 have hab : a + k ≤ b := by omega
 clear h hF hm hlen had ha hb hk
 rw [← HEND.out]
 clear HEND
 go_enter Tryz.func179, Tryz.ntmps179
 go_wp2
 go_loopw [10] (fun v wr => ∃ i : Nat, i ≤ k ∧ v = .int .i64 i ∧ Hid (Row wr n g N c (F i)) ∧ Hid (W.grownBy wr (some g))) (fun v _ => k - (intOf v).toNat)
 case atStart => exact ⟨0, by omega, rfl, HR0, HGO⟩
 case round =>
  clear HR0 HGO
  obtain ⟨i, hi, rfl, HR, HG⟩ := hrel
  by_cases hlt : i < k
  ·
   have hltI : (i : Int) < (k : Int) := by omega
   obtain ⟨x, y, h1, h2, h3⟩ := HST.out i hlt
   obtain ⟨ai, hai⟩ : ∃ ai, ai = a + i := ⟨_, rfl⟩
   obtain ⟨bi, hbi⟩ : ∃ bi, bi = b + i := ⟨_, rfl⟩
   have haiI : (a : Int) + (i : Int) = (ai : Int) := by omega
   have hbiI : (b : Int) + (i : Int) = (bi : Int) := by omega
   have wai : Go.RowKit.wrap64 (ai : Int) = (ai : Int) := by unfold Go.RowKit.wrap64; omega
   have wbi : Go.RowKit.wrap64 (bi : Int) = (bi : Int) := by unfold Go.RowKit.wrap64; omega
   have q1 : (ai : Int) < (N : Int) := by omega
   have q2 : (bi : Int) < (N : Int) := by omega
   rw [← hai, ← hbi] at h3
   rw [← hai] at h1
   rw [← hbi] at h2
   have hne : ai ≠ bi := by omega
   have hlb : bi < (F i).length := (List.getElem?_eq_some_iff.1 h2).1
   obtain ⟨x0, x1, x2, x3, x4, x5, x6, x7⟩ := x
   obtain ⟨y0, y1, y2, y3, y4, y5, y6, y7⟩ := y
   have HX := Lib.hid h1
   have HY := Lib.hid h2
   have HZ2 : Hid (((F i).set ai (y0, y1, y2, y3, y4, y5, y6, y7))[bi]? = some (y0, y1, y2, y3, y4, y5, y6, y7)) := Lib.hid (by rw [List.getElem?_set_ne hne]; exact h2)
   have HE := Lib.hid h3
   clear h1 h2 h3 hai hbi hne hlb
   obtain ⟨e0, e1, e2, e3, e4, e5, e6, e7⟩ := row_load HR.out HAD.out HX.out
   obtain ⟨f0, f1, f2, f3, f4, f5, f6, f7⟩ := row_load HR.out HAD.out HY.out
   simp only at e0 e1 e2 e3 e4 e5 e6 e7 f0 f1 f2 f3 f4 f5 f6 f7
   go_wp2_with fail
   refine start_ (n := 24) (S := fun w' => w'.cell? (ad.add (ai * 8)) = some (.string x0) ∧ w'.cell? ⟨(ad.add (ai * 8)).block, (ad.add (ai * 8)).off + 1, none⟩ = some (.int .i64 x1) ∧ w'.cell? ⟨(ad.add (ai * 8)).block, (ad.add (ai * 8)).off + 2, none⟩ = some (.int .u32 x2) ∧ w'.cell? ⟨(ad.add (ai * 8)).block, (ad.add (ai * 8)).off + 3, none⟩ = some (.int .u32 x3) ∧ w'.cell? ⟨(ad.add (ai * 8)).block, (ad.add (ai * 8)).off + 4, none⟩ = some (.int .u32 x4) ∧ w'.cell? ⟨(ad.add (ai * 8)).block, (ad.add (ai * 8)).off + 5, none⟩ = some (.int .i64 x5) ∧ w'.cell? ⟨(ad.add (ai * 8)).block, (ad.add (ai * 8)).off + 6, none⟩ = some (.int .i64 x6) ∧ w'.cell? ⟨(ad.add (ai * 8)).block, (ad.add (ai * 8)).off + 7, none⟩ = some (.string x7) ∧ w'.cell? (ad.add (bi * 8)) = some (.string y0) ∧ w'.cell? ⟨(ad.add (bi * 8)).block, (ad.add (bi * 8)).off + 1, none⟩ = some (.int .i64 y1) ∧ w'.cell? ⟨(ad.add (bi * 8)).block, (ad.add (bi * 8)).off + 2, none⟩ = some (.int .u32 y2) ∧ w'.cell? ⟨(ad.add (bi * 8)).block, (ad.add (bi * 8)).off + 3, none⟩ = some (.int .u32 y3) ∧ w'.cell? ⟨(ad.add (bi * 8)).block, (ad.add (bi * 8)).off + 4, none⟩ = some (.int .u32 y4) ∧ w'.cell? ⟨(ad.add (bi * 8)).block, (ad.add (bi * 8)).off + 5, none⟩ = some (.int .i64 y5) ∧ w'.cell? ⟨(ad.add (bi * 8)).block, (ad.add (bi * 8)).off + 6, none⟩ = some (.int .i64 y6) ∧ w'.cell? ⟨(ad.add (bi * 8)).block, (ad.add (bi * 8)).off + 7, none⟩ = some (.string y7)) (ds := [21, 23]) #[false, false, false, false, false, false, false, false, false, false, false, false, false, false, false, false, false, false, false, false, false, false, false, false] (by kernel_rfl) rfl rfl ⟨e0, e1, e2, e3, e4, e5, e6, e7, f0, f1, f2, f3, f4, f5, f6, f7⟩ (fun hHeld => ?_)
   have HRd := Lib.hid (Row.below HR.out (below_drew (Below.refl wr.heap.size wr)))
   have HGd := Lib.hid (grown_drew HG.out)
   generalize wr.drew = W1 at *
   refine pure_ (i := 0) (N := some 16) (v := ?_) (a' := ?_) #[true, false, false, false, false, false, false, false, false, false, false, false, false, false, false, false, false, false, false, false, false, false, false, false] rfl rfl (by kernel_rfl) (fun _ _ _ h => h) (Or.inl ⟨by rfl, ?_⟩) ?_ ?_
   rotate_left
   ·
    intro w'
    go_simp
    with_reducible rfl
   rotate_left
   ·
    simp only [Act.put, Own.na, Own.nz, Own.ns, i64_w, i32_w]
    rfl
   refine pure_ (i := 1) (N := some 17) (v := ?_) (a' := ?_) #[true, true, false, false, false, false, false, false, false, false, false, false, false, false, false, false, false, false, false, false, false, false, false, false] rfl rfl (by kernel_rfl) (fun _ _ _ h => h) (Or.inl ⟨by rfl, ?_⟩) ?_ ?_
   rotate_left
   ·
    intro w'
    go_simp
    with_reducible rfl
   rotate_left
   ·
    simp only [Act.put, Own.na, Own.nz, Own.ns, i64_w, i32_w]
    rfl
   refine pure_ (i := 2) (N := some 18) (v := ?_) (a' := ?_) #[true, true, true, false, false, false, false, false, false, false, false, false, false, false, false, false, false, false, false, false, false, false, false, false] rfl rfl (by kernel_rfl) (fun _ _ _ h => h) (Or.inl ⟨by rfl, ?_⟩) ?_ ?_
   rotate_left
   ·
    intro w'
    go_simp
    with_reducible rfl
   rotate_left
   ·
    simp only [Act.put, Own.na, Own.nz, Own.ns, i64_w, i32_w]
    rfl
   refine pure_ (i := 3) (N := some 19) (v := ?_) (a' := ?_) #[true, true, true, true, false, false, false, false, false, false, false, false, false, false, false, false, false, false, false, false, false, false, false, false] rfl rfl (by kernel_rfl) (fun _ _ _ h => h) (Or.inl ⟨by rfl, ?_⟩) ?_ ?_
   rotate_left
   ·
    intro w'
    go_simp
    with_reducible rfl
   rotate_left
   ·
    simp only [Act.put, Own.na, Own.nz, Own.ns, i64_w, i32_w]
    rfl
   refine pure_ (i := 4) (N := some 20) (v := ?_) (a' := ?_) #[true, true, true, true, true, false, false, false, false, false, false, false, false, false, false, false, false, false, false, false, false, false, false, false] rfl rfl (by kernel_rfl) (fun _ _ _ h => h) (Or.inl ⟨by rfl, ?_⟩) ?_ ?_
   rotate_left
   ·
    intro w'
    go_simp
    with_reducible rfl
   rotate_left
   ·
    simp only [Act.put, Own.na, Own.nz, Own.ns, i64_w, i32_w]
    rfl
   refine pure_ (i := 5) (N := some 21) (v := ?_) (a' := ?_) #[true, true, true, true, true, true, false, false, false, false, false, false, false, false, false, false, false, false, false, false, false, false, false, false] rfl rfl (by kernel_rfl) (fun _ _ _ h => h) (Or.inl ⟨by rfl, ?_⟩) ?_ ?_
   rotate_left
   ·
    intro w'
    go_simp
    with_reducible rfl
   rotate_left
   ·
    simp only [Act.put, Own.na, Own.nz, Own.ns, i64_w, i32_w]
    rfl
   refine pure_ (i := 6) (N := some 22) (v := ?_) (a' := ?_) #[true, true, true, true, true, true, true, false, false, false, false, false, false, false, false, false, false, false, false, false, false, false, false, false] rfl rfl (by kernel_rfl) (fun _ _ _ h => h) (Or.inl ⟨by rfl, ?_⟩) ?_ ?_
   rotate_left
   ·
    intro w'
    go_simp
    with_reducible rfl
   rotate_left
   ·
    simp only [Act.put, Own.na, Own.nz, Own.ns, i64_w, i32_w]
    rfl
   refine pure_ (i := 7) (N := some 23) (v := ?_) (a' := ?_) #[true, true, true, true, true, true, true, true, false, false, false, false, false, false, false, false, false, false, false, false, false, false, false, false] rfl rfl (by kernel_rfl) (fun _ _ _ h => h) (Or.inl ⟨by rfl, ?_⟩) ?_ ?_
   rotate_left
   ·
    intro w'
    go_simp
    with_reducible rfl
   rotate_left
   ·
    simp only [Act.put, Own.na, Own.nz, Own.ns, i64_w, i32_w]
    rfl
   refine pure_ (i := 8) (N := some 24) (v := ?_) (a' := ?_) #[true, true, true, true, true, true, true, true, true, false, false, false, false, false, false, false, false, false, false, false, false, false, false, false] rfl rfl (by kernel_rfl) (fun _ _ _ h => h) (Or.inl ⟨by rfl, ?_⟩) ?_ ?_
   rotate_left
   ·
    intro w'
    go_simp
    with_reducible rfl
   rotate_left
   ·
    simp only [Act.put, Own.na, Own.nz, Own.ns, i64_w, i32_w]
    rfl
   refine pure_ (i := 9) (N := some 25) (v := ?_) (a' := ?_) #[true, true, true, true, true, true, true, true, true, true, false, false, false, false, false, false, false, false, false, false, false, false, false, false] rfl rfl (by kernel_rfl) (fun _ _ _ h => h) (Or.inl ⟨by rfl, ?_⟩) ?_ ?_
   rotate_left
   ·
    intro w'
    go_simp
    with_reducible rfl
   rotate_left
   ·
    simp only [Act.put, Own.na, Own.nz, Own.ns, i64_w, i32_w]
    rfl
   refine pure_ (i := 10) (N := some 26) (v := ?_) (a' := ?_) #[true, true, true, true, true, true, true, true, true, true, true, false, false, false, false, false, false, false, false, false, false, false, false, false] rfl rfl (by kernel_rfl) (fun _ _ _ h => h) (Or.inl ⟨by rfl, ?_⟩) ?_ ?_
   rotate_left
   ·
    intro w'
    go_simp
    with_reducible rfl
   rotate_left
   ·
    simp only [Act.put, Own.na, Own.nz, Own.ns, i64_w, i32_w]
    rfl
   refine pure_ (i := 11) (N := some 27) (v := ?_) (a' := ?_) #[true, true, true, true, true, true, true, true, true, true, true, true, false, false, false, false, false, false, false, false, false, false, false, false] rfl rfl (by kernel_rfl) (fun _ _ _ h => h) (Or.inl ⟨by rfl, ?_⟩) ?_ ?_
   rotate_left
   ·
    intro w'
    go_simp
    with_reducible rfl
   rotate_left
   ·
    simp only [Act.put, Own.na, Own.nz, Own.ns, i64_w, i32_w]
    rfl
   refine pure_ (i := 12) (N := some 28) (v := ?_) (a' := ?_) #[true, true, true, true, true, true, true, true, true, true, true, true, true, false, false, false, false, false, false, false, false, false, false, false] rfl rfl (by kernel_rfl) (fun _ _ _ h => h) (Or.inl ⟨by rfl, ?_⟩) ?_ ?_
   rotate_left
   ·
    intro w'
    go_simp
    with_reducible rfl
   rotate_left
   ·
    simp only [Act.put, Own.na, Own.nz, Own.ns, i64_w, i32_w]
    rfl
   refine pure_ (i := 14) (N := some 30) (v := ?_) (a' := ?_) #[true, true, true, true, true, true, true, true, true, true, true, true, true, false, true, false, false, false, false, false, false, false, false, false] rfl rfl (by kernel_rfl) (fun _ _ _ h => h) (Or.inl ⟨by rfl, ?_⟩) ?_ ?_
   rotate_left
   ·
    intro w'
    go_simp
    with_reducible rfl
   rotate_left
   ·
    simp only [Act.put, Own.na, Own.nz, Own.ns, i64_w, i32_w]
    rfl
   refine pure_ (i := 15) (N := some 31) (v := ?_) (a' := ?_) #[true, true, true, true, true, true, true, true, true, true, true, true, true, false, true, true, false, false, false, false, false, false, false, false] rfl rfl (by kernel_rfl) (fun _ _ _ h => h) (Or.inl ⟨by rfl, ?_⟩) ?_ ?_
   rotate_left
   ·
    intro w'
    go_simp
    with_reducible rfl
   rotate_left
   ·
    simp only [Act.put, Own.na, Own.nz, Own.ns, i64_w, i32_w]
    rfl
   refine pure_ (i := 16) (N := some 32) (v := ?_) (a' := ?_) #[true, true, true, true, true, true, true, true, true, true, true, true, true, false, true, true, true, false, false, false, false, false, false, false] rfl rfl (by kernel_rfl) (fun _ _ _ h => h) (Or.inl ⟨by rfl, ?_⟩) ?_ ?_
   rotate_left
   ·
    intro w'
    go_simp
    with_reducible rfl
   rotate_left
   ·
    simp only [Act.put, Own.na, Own.nz, Own.ns, i64_w, i32_w]
    rfl
   refine pure_ (i := 17) (N := some 33) (v := ?_) (a' := ?_) #[true, true, true, true, true, true, true, true, true, true, true, true, true, false, true, true, true, true, false, false, false, false, false, false] rfl rfl (by kernel_rfl) (fun _ _ _ h => h) (Or.inl ⟨by rfl, ?_⟩) ?_ ?_
   rotate_left
   ·
    intro w'
    go_simp
    with_reducible rfl
   rotate_left
   ·
    simp only [Act.put, Own.na, Own.nz, Own.ns, i64_w, i32_w]
    rfl
   refine pure_ (i := 18) (N := some 34) (v := ?_) (a' := ?_) #[true, true, true, true, true, true, true, true, true, true, true, true, true, false, true, true, true, true, true, false, false, false, false, false] rfl rfl (by kernel_rfl) (fun _ _ _ h => h) (Or.inl ⟨by rfl, ?_⟩) ?_ ?_
   rotate_left
   ·
    intro w'
    go_simp
    with_reducible rfl
   rotate_left
   ·
    simp only [Act.put, Own.na, Own.nz, Own.ns, i64_w, i32_w]
    rfl
   refine take_ (i := 13) (N := some 29) (v := ?_) (a' := ?_) #[true, true, true, true, true, true, true, true, true, true, true, true, true, true, true, true, true, true, true, false, false, false, false, false] rfl rfl (by kernel_rfl) (fun _ _ _ h => h) (Or.inl ⟨by rfl, ?_⟩) hHeld ?_ ?_
   rotate_left
   ·
    rintro w' ⟨s0, s1, s2, s3, s4, s5, s6, s7, s8, s9, s10, s11, s12, s13, s14, s15⟩
    go_simp
    with_reducible rfl
   rotate_left
   ·
    simp only [Act.put, Own.na, Own.nz, Own.ns, i64_w, i32_w]
    rfl
   refine take_ (i := 19) (N := some 35) (v := ?_) (a' := ?_) #[true, true, true, true, true, true, true, true, true, true, true, true, true, true, true, true, true, true, true, true, false, false, false, false] rfl rfl (by kernel_rfl) (fun _ _ _ h => h) (Or.inl ⟨by rfl, ?_⟩) hHeld ?_ ?_
   rotate_left
   ·
    rintro w' ⟨s0, s1, s2, s3, s4, s5, s6, s7, s8, s9, s10, s11, s12, s13, s14, s15⟩
    go_simp
    with_reducible rfl
   rotate_left
   ·
    simp only [Act.put, Own.na, Own.nz, Own.ns, i64_w, i32_w]
    rfl
   refine pure_ (i := 20) (N := some 36) (v := ?_) (a' := ?_) #[true, true, true, true, true, true, true, true, true, true, true, true, true, true, true, true, true, true, true, true, true, false, false, false] rfl rfl (by kernel_rfl) (fun _ _ _ h => h) (Or.inl ⟨by rfl, ?_⟩) ?_ ?_
   rotate_left
   ·
    intro w'
    go_simp
    with_reducible rfl
   rotate_left
   ·
    simp only [Act.put, Own.na, Own.nz, Own.ns, i64_w, i32_w]
    rfl
   refine last_ (i := 21) (N := none) #[true, true, true, true, true, true, true, true, true, true, true, true, true, true, true, true, true, true, true, true, true, true, false, false] rfl rfl (by kernel_rfl) (by decide) (fun K hK => ?_)
   refine skip_ (w1 := _) (by rfl) rfl (store_item (k := ai) (y0, y1, y2, y3, y4, y5, y6, y7) rfl rfl rfl HAD.out HRd.out HX.out) ?_
   have hs1 := row_set (y0, y1, y2, y3, y4, y5, y6, y7) HRd.out HX.out
   have HR2 := Lib.hid hs1.1
   have HG2 := Lib.hid (grown_trans HGd.out hs1.2)
   clear hs1
   generalize W1.setCells g (ai * 8) (cellsI (y0, y1, y2, y3, y4, y5, y6, y7)) = W2 at *
   refine hK.out _ _ ?_
   clear hK K
   refine pure_ (i := 22) (N := some 37) (v := ?_) (a' := ?_) #[true, true, true, true, true, true, true, true, true, true, true, true, true, true, true, true, true, true, true, true, true, true, true, false] rfl rfl (by kernel_rfl) (fun _ _ _ h => h) (Or.inl ⟨by rfl, ?_⟩) ?_ ?_
   rotate_left
   ·
    intro w'
    go_simp
    with_reducible rfl
   rotate_left
   ·
    simp only [Act.put, Own.na, Own.nz, Own.ns, i64_w, i32_w]
    rfl
   refine last_ (i := 23) (N := none) #[true, true, true, true, true, true, true, true, true, true, true, true, true, true, true, true, true, true, true, true, true, true, true, true] rfl rfl (by kernel_rfl) (by decide) (fun K hK => ?_)
   refine skip_ (w1 := _) (by rfl) rfl (store_item (k := bi) (x0, x1, x2, x3, x4, x5, x6, x7) rfl rfl rfl HAD.out HR2.out HZ2.out) ?_
   have hs1 := row_set (x0, x1, x2, x3, x4, x5, x6, x7) HR2.out HZ2.out
   have HR3 := Lib.hid hs1.1
   have HG3 := Lib.hid (grown_trans HG2.out hs1.2)
   clear hs1
   generalize W2.setCells g (bi * 8) (cellsI (x0, x1, x2, x3, x4, x5, x6, x7)) = W3 at *
   refine hK.out _ _ ?_
   clear hK K
   refine done_ (by kernel_rfl) ?_
   clear e0 e1 e2 e3 e4 e5 e6 e7 f0 f1 f2 f3 f4 f5 f6 f7
   have HR4 : Hid (Row W3 n g N c (F (i + 1))) := Lib.hid (by rw [← HE.out]; exact HR3.out)
   clear HR HG HRd HGd HR2 HG2 HR3 HE HX HY HZ2
   go_wp2
   go_roundw
   case rel => exact ⟨i + 1, by omega, by go_num, HR4, HG3⟩
   case measure => simp [intOf]; omega
  ·
   have hik : i = k := by omega
   subst hik
   go_wp2
   go_end0
   exact ⟨rfl, HR.out, HG.out⟩
set_option maxHeartbeats 4000000 in
set_option maxRecDepth 100000 in
/-- Two rows, one behind the other, change places. -/
theorem rotate_any (n g N c a m b : Nat) (cv : Value) (p u v q : List It) (W : World) (hN : N ≤ 1000000) (ha : a = p.length) (hm : m = a + u.length) (hb : b = m + v.length) (hu : 0 < u.length) (hv : 0 < v.length) (h : Row W n g N c (p ++ (u ++ (v ++ q)))) :
  Calls Tryz.prog 174 #[.slice (some ⟨g, 0, none⟩) N c, .int .i64 a, .int .i64 m, .int .i64 b, cv] W fun e w' => e = .returned (.tuple #[]) ∧ Row w' n g N c (p ++ (v ++ (u ++ q))) ∧ W.grownBy w' (some g) := by
 have hlen := h.1
 simp only [List.length_append] at hlen
 obtain ⟨T, hT⟩ : ∃ T, T = p ++ (v ++ (u ++ q)) := ⟨_, rfl⟩
 rw [← hT]
 obtain ⟨i0, hi0⟩ : ∃ i0, i0 = u.length := ⟨_, rfl⟩
 obtain ⟨j0, hj0⟩ : ∃ j0, j0 = v.length := ⟨_, rfl⟩
 have HMA := Lib.hid (show (m : Int) - (a : Int) = (i0 : Int) by omega)
 have HBM := Lib.hid (show (b : Int) - (m : Int) = (j0 : Int) by omega)
 have hbN : b ≤ 1000000 := by omega
 have haN : a ≤ 1000000 := by omega
 have HI : Hid (∃ (p1 U V q1 : List It), U.length = i0 ∧ V.length = j0 ∧ 0 < i0 ∧ 0 < j0 ∧ p1.length + i0 = m ∧ m + j0 ≤ N ∧ p1 ++ (V ++ (U ++ q1)) = T ∧ Row W n g N c (p1 ++ (U ++ (V ++ q1)))) := Lib.hid ⟨p, u, v, q, hi0.symm, hj0.symm, by omega, by omega, by omega, by omega, hT.symm, h⟩
 have HGO := Lib.hid (grown_refl W (some g))
 obtain ⟨F, hF⟩ : ∃ F, F = i0 + j0 := ⟨_, rfl⟩
 have hFl : i0 + j0 ≤ F := by omega
 have hmN : m ≤ 1000000 := by omega
 clear h hlen hT hF hi0 hj0 ha hm hb hu hv
 go_enter Tryz.func174, Tryz.ntmps174
 go_wp2
 go_loopg [10, 11] F (fun gg vi vj wr => ∃ i j : Nat, vi = .int .i64 i ∧ vj = .int .i64 j ∧ i + j ≤ gg ∧ Hid (∃ (p1 U V q1 : List It), U.length = i ∧ V.length = j ∧ 0 < i ∧ 0 < j ∧ p1.length + i = m ∧ m + j ≤ N ∧ p1 ++ (V ++ (U ++ q1)) = T ∧ Row wr n g N c (p1 ++ (U ++ (V ++ q1)))) ∧ Hid (W.grownBy wr (some g)))
 case atStart => exact ⟨i0, j0, by rw [HMA.out], by rw [HBM.out], hFl, HI, HGO⟩
 case round =>
  clear HI HGO hFl HMA HBM
  obtain ⟨i, j, rfl, rfl, hij, HI, HG⟩ := hrel
  obtain ⟨p1, U, V, q1, hU, hV, hi, hj, hp, hmj, hT, hR⟩ := HI.out
  have HT := Lib.hid hT
  have HU := Lib.hid hU
  have HV := Lib.hid hV
  obtain ⟨pl, hpl⟩ : ∃ pl, pl = p1.length := ⟨_, rfl⟩
  have HP := Lib.hid hpl
  have HMI := Lib.hid (show (m : Int) - (i : Int) = (pl : Int) by omega)
  have him : i ≤ m := by omega
  have hjm : j ≤ 1000000 := by omega
  by_cases he : i = j
  ·
   have hC := swap_any n g N c pl m i cv p1 U [] V q1 wr hN (by omega) hpl (by simp only [List.length_nil]; omega) hU.symm hR
   have HC := Lib.hid hC
   have q0 : ((i : Int) == (j : Int)) = true := beq_iff_eq.2 (by omega)
   have q1x : ((i : Int) != (j : Int)) = false := by simp [bne, q0]
   clear hC hT hU hV hpl hp hR HI
   subst he
   go_wp2_with fail
   rw [HMI.out]
   refine HC.out.mono ?_
   rintro e w2 ⟨rfl, h2, h3⟩
   rw [List.nil_append, HT.out] at h2
   have HR2 := Lib.hid h2
   have HG2 := Lib.hid (grown_trans HG.out h3)
   clear h2 h3 HC
   go_wp2
   go_end0
   exact ⟨rfl, HR2.out, HG2.out⟩
  ·
   have q0 : ((i : Int) == (j : Int)) = false := beq_eq_false_iff_ne.2 (by omega)
   have q1x : ((i : Int) != (j : Int)) = true := by simp [bne, q0]
   by_cases hgt : j < i
   ·
    have hgtI : (j : Int) < (i : Int) := by omega
    obtain ⟨d, hd⟩ : ∃ d, d = i - j := ⟨_, rfl⟩
    have hC := swap_any n g N c pl m j cv p1 (U.take j) (U.drop j) V q1 wr hN (by rw [List.length_take]; omega) hpl (by rw [List.length_take, List.length_drop]; omega) (by rw [List.length_take]; omega) (by rw [← List.append_assoc (U.take j), List.take_append_drop]; exact hR)
    have HC := Lib.hid hC
    have HE : Hid ((p1 ++ V) ++ (U.take j ++ (U.drop j ++ q1)) = T) := Lib.hid (by rw [← hT, ← List.append_assoc (U.take j), List.take_append_drop, List.append_assoc])
    have HL : Hid ((U.drop j).length = d ∧ (U.take j).length = j ∧ (p1 ++ V).length + d = m) := Lib.hid (by rw [List.length_take, List.length_drop, List.length_append]; omega)
    have HD := Lib.hid (show (i : Int) - (j : Int) = (d : Int) by omega)
    have HDP := Lib.hid (show 0 < d ∧ d + j = i by omega)
    clear hC hT hU hV hpl hp hR HI hd
    go_wp2_with fail
    rw [HMI.out]
    refine HC.out.mono ?_
    rintro e w2 ⟨rfl, h2, h3⟩
    have HI2 : Hid (∃ (p1 U V q1 : List It), U.length = d ∧ V.length = j ∧ 0 < d ∧ 0 < j ∧ p1.length + d = m ∧ m + j ≤ N ∧ p1 ++ (V ++ (U ++ q1)) = T ∧ Row w2 n g N c (p1 ++ (U ++ (V ++ q1)))) := Lib.hid ⟨p1 ++ V, U.drop j, U.take j, q1, HL.out.1, HL.out.2.1, HDP.out.1, hj, HL.out.2.2, hmj, HE.out, by rw [List.append_assoc]; exact h2⟩
    have HG2 := Lib.hid (grown_trans HG.out h3)
    clear h2 h3 HC
    go_wp2
    go_roundg (gk - 1)
    case measure => omega
    case rel => exact ⟨d, j, by rw [HD.out], rfl, by have := HDP.out; omega, HI2, HG2⟩
   ·
    have hgtI : ¬ (j : Int) < (i : Int) := by omega
    obtain ⟨d, hd⟩ : ∃ d, d = j - i := ⟨_, rfl⟩
    obtain ⟨mj, hmj2⟩ : ∃ mj, mj = m + j - i := ⟨_, rfl⟩
    have HMJ := Lib.hid (show (m : Int) + (j : Int) - (i : Int) = (mj : Int) by omega)
    have hC := swap_any n g N c pl mj i cv p1 U (V.take d) (V.drop d) q1 wr hN (by rw [List.length_drop]; omega) hpl (by rw [List.length_take]; omega) hU.symm (by rw [← List.append_assoc (V.take d), List.take_append_drop]; exact hR)
    have HC := Lib.hid hC
    have HE : Hid (p1 ++ (V.take d ++ (V.drop d ++ (U ++ q1))) = T) := Lib.hid (by rw [← hT, ← List.append_assoc (V.take d), List.take_append_drop])
    have HL : Hid ((V.drop d).length = i ∧ (V.take d).length = d) := Lib.hid (by rw [List.length_take, List.length_drop]; omega)
    have HD := Lib.hid (show (j : Int) - (i : Int) = (d : Int) by omega)
    have HDP := Lib.hid (show 0 < d ∧ d + i = j ∧ p1.length + i = m by omega)
    clear hC hT hU hV hpl hp hR HI hd hmj2
    go_wp2_with fail
    rw [HMI.out, HMJ.out]
    refine HC.out.mono ?_
    rintro e w2 ⟨rfl, h2, h3⟩
    have HI2 : Hid (∃ (p1 U V q1 : List It), U.length = i ∧ V.length = d ∧ 0 < i ∧ 0 < d ∧ p1.length + i = m ∧ m + d ≤ N ∧ p1 ++ (V ++ (U ++ q1)) = T ∧ Row w2 n g N c (p1 ++ (U ++ (V ++ q1)))) := Lib.hid ⟨p1, V.drop d, V.take d, U ++ q1, HL.out.1, HL.out.2, hi, HDP.out.1, HDP.out.2.2, by have := HDP.out; omega, HE.out, h2⟩
    have HG2 := Lib.hid (grown_trans HG.out h3)
    clear h2 h3 HC
    go_wp2
    go_roundg (gk - 1)
    case measure => omega
    case rel => exact ⟨i, d, rfl, by rw [HD.out], by have := HDP.out; omega, HI2, HG2⟩
end Go.Proofs.YtibmfjacfbpfgaaGreatDoor.SortSwap
/- sort: the comparison's contract; the insertion sort. -/
namespace Go.Proofs.YtibmfjacfbpfgaaGreatDoor.SortIns
open Go.RowKit YtibmfjacfbpfgaaGreatDoorW.PrintWords YtibmfjacfbpfgaaGreatDoorW.PrintLast YtibmfjacfbpfgaaGreatDoorW.PrintMore YtibmfjacfbpfgaaGreatDoor.Item Own Stab SortLaw TreeLaw NameWalk SortSwap
theorem i_lt {x N : Nat} (h : x < N) : (x : Int) < (N : Int) := by omega
theorem i_pred {a j j1 : Nat} (h : j1 = j - 1) (k : a < j) : (j : Int) - 1 = (j1 : Int) := by omega
theorem n_pred {j j1 : Nat} (h : j1 = j - 1) : j1 ≤ j := by omega
theorem w_le {x N : Nat} (h : x ≤ N) (hN : N ≤ 1000000) : Go.RowKit.wrap64 (x : Int) = (x : Int) := by unfold Go.RowKit.wrap64; omega
/-- Paths that are short enough for the order to be asked. -/
def Short (l : List It) : Prop := ∀ x ∈ l, x.1.size < 4294967281
theorem below_row {U W W1 : World} {g : Nat} (h : Below U.heap.size U W) (hg : W.grownBy W1 (some g)) (hn : U.heap.size ≤ g) : Below U.heap.size U W1 := below_grown h (Nat.le_refl _) hg (fun x hx => by injection hx with hx; omega)
set_option maxHeartbeats 1000000 in
theorem cmp_any (x0 : ByteArray) (x1 x2 x3 x4 x5 x6 : Int) (x7 y0 : ByteArray) (y1 y2 y3 y4 y5 y6 : Int) (y7 : ByteArray) (w : World) (hg : Glob w) (h1 : x0.size < 4294967281) (h2 : y0.size < 4294967281) :
  Calls Tryz.prog 110 #[.agg #[.string x0, .int .i64 x1, .int .u32 x2, .int .u32 x3, .int .u32 x4, .int .i64 x5, .int .i64 x6, .string x7], .agg #[.string y0, .int .i64 y1, .int .u32 y2, .int .u32 y3, .int .u32 y4, .int .i64 y5, .int .i64 y6, .string y7]] w fun e w' => e = .returned (.int .i64 (orderT x0 y0)) ∧ Below w.heap.size w w' := by
 have hb2 : Below w.heap.size w ((w.alloc (.cells #[.string x0, .int .i64 x1, .int .u32 x2, .int .u32 x3, .int .u32 x4, .int .i64 x5, .int .i64 x6, .string x7] 77)).alloc (.cells #[.string y0, .int .i64 y1, .int .u32 y2, .int .u32 y3, .int .u32 y4, .int .i64 y5, .int .i64 y6, .string y7] 77)) := ((Below.refl _ _).alloc (Nat.le_refl _) _).alloc (by simp) _
 have HB2 := Lib.hid hb2
 have HC := Lib.hid (order_any x0 y0 _ (hg.below hb2) h1 h2)
 have c1 : ((w.alloc (.cells #[.string x0, .int .i64 x1, .int .u32 x2, .int .u32 x3, .int .u32 x4, .int .i64 x5, .int .i64 x6, .string x7] 77)).alloc (.cells #[.string y0, .int .i64 y1, .int .u32 y2, .int .u32 y3, .int .u32 y4, .int .i64 y5, .int .i64 y6, .string y7] 77)).cell? ⟨w.heap.size, 0, none⟩ = some (.string x0) := by
  rw [cell_of ((heap_alloc_old _ _ (by simp)).trans (heap_new w _))]; rfl
 have c2 : ((w.alloc (.cells #[.string x0, .int .i64 x1, .int .u32 x2, .int .u32 x3, .int .u32 x4, .int .i64 x5, .int .i64 x6, .string x7] 77)).alloc (.cells #[.string y0, .int .i64 y1, .int .u32 y2, .int .u32 y3, .int .u32 y4, .int .i64 y5, .int .i64 y6, .string y7] 77)).cell? ⟨w.heap.size + 1, 0, none⟩ = some (.string y0) := by
  have := heap_new (w.alloc (.cells #[.string x0, .int .i64 x1, .int .u32 x2, .int .u32 x3, .int .u32 x4, .int .i64 x5, .int .i64 x6, .string x7] 77)) (.cells #[.string y0, .int .i64 y1, .int .u32 y2, .int .u32 y3, .int .u32 y4, .int .i64 y5, .int .i64 y6, .string y7] 77)
  rw [show (w.alloc (.cells #[.string x0, .int .i64 x1, .int .u32 x2, .int .u32 x3, .int .u32 x4, .int .i64 x5, .int .i64 x6, .string x7] 77)).heap.size = w.heap.size + 1 by simp] at this
  rw [cell_of this]; rfl
 generalize orderT x0 y0 = r at *
 clear hb2 hg
 go_enter Tryz.func110, Tryz.ntmps110
 go_wp2_with (go_at_call 83; refine HC.out.mono ?_; rintro e w1 ⟨rfl, hb⟩; have HB := Lib.hid (below_next HB2.out hb); clear hb)
 go_ret
 exact ⟨rfl, HB.out⟩
set_option maxHeartbeats 8000000 in
set_option maxRecDepth 100000 in
/-- A piece is sorted by insertion. -/
theorem ins_any (W0 : World) (hgl : Glob W0) (g N c a b : Nat) (p s0 q : List It) (W : World) (hN : N ≤ 1000000) (ha : a = p.length) (hb : b = a + s0.length) (hs0 : 0 < s0.length) (hsz : Short s0) (hB : Below W0.heap.size W0 W) (h : Row W W0.heap.size g N c (p ++ (s0 ++ q))) :
  Calls Tryz.prog 157 #[.slice (some ⟨g, 0, none⟩) N c, .int .i64 a, .int .i64 b, .func (.func 110) #[] #[]] W fun e w' => e = .returned (.tuple #[]) ∧ (∃ s, Row w' W0.heap.size g N c (p ++ (s ++ q)) ∧ Stb ltI s0 s) ∧ W.grownBy w' (some g) := by
 obtain ⟨ad, had⟩ : ∃ ad : Addr, ad = ⟨g, 0, none⟩ := ⟨_, rfl⟩
 rw [← had]
 have HAD := Lib.hid had
 have HGL := Lib.hid hgl
 have HB := Lib.hid hB
 have HNG := Lib.hid h.base
 have HSZ := Lib.hid hsz
 have HA := Lib.hid ha
 have HBL := Lib.hid hb
 have hlen := h.1
 simp only [List.length_append] at hlen
 have hbN : b ≤ N := by omega
 have haN : a ≤ N := by omega
 have HI : Hid (∃ t s r : List It, s0 = t ++ r ∧ a + 1 = a + t.length ∧ Stb ltI t s ∧ Row W W0.heap.size g N c (p ++ (s ++ (r ++ q)))) := Lib.hid (by
  cases s0 with
  | nil => simp at hs0
  | cons x r => exact ⟨[x], [x], r, rfl, rfl, Stb.refl (Sorted.one x), h⟩)
 have HGO := Lib.hid (grown_refl W (some g))
 obtain ⟨F, hF⟩ : ∃ F, F = b := ⟨_, rfl⟩
 have hFb : b ≤ a + 1 + F := by omega
 clear had hgl hB h hsz ha hb hs0 hlen hF
 go_enter Tryz.func157, Tryz.ntmps157
 go_wp2
 go_loopg [8] F (fun gg vi wr => ∃ i : Nat, vi = .int .i64 i ∧ b ≤ i + gg ∧ Hid (∃ t s r : List It, s0 = t ++ r ∧ i = a + t.length ∧ Stb ltI t s ∧ Row wr W0.heap.size g N c (p ++ (s ++ (r ++ q)))) ∧ Hid (W.grownBy wr (some g)))
 case atStart => exact ⟨a + 1, by go_num, hFb, HI, HGO⟩
 case round =>
  clear HI HGO hFb
  obtain ⟨i, rfl, hig, HI, HG0⟩ := hrel
  obtain ⟨t, s, r, e0, e1, hst, hR⟩ := HI.out
  have HE0 := Lib.hid e0
  have HE1 := Lib.hid e1
  have HST := Lib.hid hst
  have HSL := Lib.hid (show s.length = t.length from hst.1.1.symm)
  have HR0 := Lib.hid hR
  clear hst hR HI
  by_cases hlt : i < b
  ·
   have hltI : (i : Int) < (b : Int) := by omega
   obtain ⟨x, r1, hr⟩ : ∃ x r1, r = x :: r1 := by
    cases r with
    | nil => exfalso; have := HBL.out; rw [e0, List.append_nil] at this; omega
    | cons x r1 => exact ⟨x, r1, rfl⟩
   subst hr
   obtain ⟨x0, x1, x2, x3, x4, x5, x6, x7⟩ := x
   have HSX := Lib.hid (HSZ.out (x0, x1, x2, x3, x4, x5, x6, x7) (by rw [e0]; simp))
   obtain ⟨r, hr1⟩ : ∃ r, r = r1 := ⟨_, rfl⟩
   rw [← hr1] at HR0 HE0
   have hia : a ≤ i := by omega
   have hiN : i < N := by omega
   clear hr1 e0 e1
   obtain ⟨go, hgo⟩ : ∃ go, go = gk := ⟨_, rfl⟩
   obtain ⟨F2, hF2⟩ : ∃ F2, F2 = i := ⟨_, rfl⟩
   have hF2i : i ≤ F2 := by omega
   have HI2 : Hid (∃ s1 s2 : List It, s1.length + a = i ∧ s1 ++ s2 = s ∧ (∀ y ∈ s2, ltI (x0, x1, x2, x3, x4, x5, x6, x7) y = true) ∧ Row wr W0.heap.size g N c (p ++ (s1 ++ (x0, x1, x2, x3, x4, x5, x6, x7) :: (s2 ++ (r ++ q))))) := Lib.hid ⟨s, [], by rw [HSL.out]; have := HE1.out; omega, by simp, by simp, HR0.out⟩
   clear HR0 hF2
   go_wp2
   go_loopg [9] F2 (fun gg vj wx => ∃ j : Nat, vj = .int .i64 j ∧ a ≤ j ∧ j ≤ i ∧ j ≤ gg ∧ Hid (∃ s1 s2 : List It, s1.length + a = j ∧ s1 ++ s2 = s ∧ (∀ y ∈ s2, ltI (x0, x1, x2, x3, x4, x5, x6, x7) y = true) ∧ Row wx W0.heap.size g N c (p ++ (s1 ++ (x0, x1, x2, x3, x4, x5, x6, x7) :: (s2 ++ (r ++ q))))) ∧ Hid (W.grownBy wx (some g)))
   case atStart => exact ⟨i, rfl, hia, Nat.le_refl _, hF2i, HI2, HG0⟩
   case round =>
    clear HI2 HG0 hF2i
    obtain ⟨j, rfl, haj, hji, hjg, HI, HG⟩ := hrel
    obtain ⟨s1, s2, k1, k2, k3, hR⟩ := HI.out
    have HK1 := Lib.hid k1
    have HK2 := Lib.hid k2
    have HK3 := Lib.hid k3
    have HR := Lib.hid hR
    clear HI
    by_cases haj2 : a < j
    ·
     have hajI : (a : Int) < (j : Int) := by omega
     have q0 : decide ((a : Int) < (j : Int)) = true := decide_eq_true hajI
     obtain ⟨s3, y, hs3⟩ : ∃ s3 y, s1 = s3 ++ [y] := by
      rcases List.eq_nil_or_concat s1 with e | ⟨s3, y, e⟩
      ·
       rw [e] at k1; simp at k1; omega
      ·
       exact ⟨s3, y, by rw [e, List.concat_eq_append]⟩
     obtain ⟨y0, y1, y2, y3, y4, y5, y6, y7⟩ := y
     have HS3 := Lib.hid hs3
     obtain ⟨j1, hj1⟩ : ∃ j1, j1 = j - 1 := ⟨_, rfl⟩
     have hj1I : (j : Int) - 1 = (j1 : Int) := i_pred hj1 haj2
     have wj1 : Go.RowKit.wrap64 (j1 : Int) = (j1 : Int) := w_le (Nat.le_of_lt (Nat.lt_of_le_of_lt (n_pred hj1) (Nat.lt_of_le_of_lt hji hiN))) hN
     have qj : (j : Int) < (N : Int) := i_lt (Nat.lt_of_le_of_lt hji hiN)
     have qj1 : (j1 : Int) < (N : Int) := i_lt (Nat.lt_of_le_of_lt (n_pred hj1) (Nat.lt_of_le_of_lt hji hiN))
     obtain ⟨L, hL⟩ : ∃ L, L = p ++ (s1 ++ (x0, x1, x2, x3, x4, x5, x6, x7) :: (s2 ++ (r ++ q))) := ⟨_, rfl⟩
     have hs3l : s3.length + 1 + a = j := by rw [hs3, List.length_append, List.length_singleton] at k1; exact k1
     have hsw := swap_mid' (l := L) (p := p ++ s3) (m := []) (q := s2 ++ (r ++ q)) (x := (y0, y1, y2, y3, y4, y5, y6, y7)) (y := (x0, x1, x2, x3, x4, x5, x6, x7)) (i := j1) (j := j) (by rw [hL, hs3]; simp only [List.append_assoc, List.cons_append, List.nil_append]) (by rw [List.length_append, ← HA.out]; omega) (by simp only [List.length_nil]; omega)
     rw [← hL] at HR
     have HX := Lib.hid hsw.2.1
     have HY := Lib.hid hsw.1
     have HSW := Lib.hid hsw.2.2.2
     have hne : j ≠ j1 := by omega
     have HZ2 : Hid ((L.set j (y0, y1, y2, y3, y4, y5, y6, y7))[j1]? = some (y0, y1, y2, y3, y4, y5, y6, y7)) := Lib.hid (by rw [List.getElem?_set_ne hne]; exact hsw.1)
     have HSY : Hid (y0.size < 4294967281) := Lib.hid (HSZ.out (y0, y1, y2, y3, y4, y5, y6, y7) (by
      have h1 : (y0, y1, y2, y3, y4, y5, y6, y7) ∈ s := by rw [← k2, hs3]; simp
      rw [HE0.out]
      exact List.mem_append_left _ (HST.out.1.symm.mem swoI h1)))
     have HLT : Hid (ltI (x0, x1, x2, x3, x4, x5, x6, x7) (y0, y1, y2, y3, y4, y5, y6, y7) = decide (orderT x0 y0 < 0)) := Lib.hid rfl
     have HLH := Lib.hid hL
     have HJ := Lib.hid (And.intro hj1 hs3l)
     clear hsw hL k1 k2 k3 hR hs3 hj1 hs3l hne
     obtain ⟨e0, e1, e2, e3, e4, e5, e6, e7⟩ := row_load HR.out HAD.out HX.out
     obtain ⟨f0, f1, f2, f3, f4, f5, f6, f7⟩ := row_load HR.out HAD.out HY.out
     simp only at e0 e1 e2 e3 e4 e5 e6 e7 f0 f1 f2 f3 f4 f5 f6 f7
     go_wp2_with fail
     refine start_ (n := 17) (S := fun w' => w'.cell? (ad.add (j * 8)) = some (.string x0) ∧ w'.cell? ⟨(ad.add (j * 8)).block, (ad.add (j * 8)).off + 1, none⟩ = some (.int .i64 x1) ∧ w'.cell? ⟨(ad.add (j * 8)).block, (ad.add (j * 8)).off + 2, none⟩ = some (.int .u32 x2) ∧ w'.cell? ⟨(ad.add (j * 8)).block, (ad.add (j * 8)).off + 3, none⟩ = some (.int .u32 x3) ∧ w'.cell? ⟨(ad.add (j * 8)).block, (ad.add (j * 8)).off + 4, none⟩ = some (.int .u32 x4) ∧ w'.cell? ⟨(ad.add (j * 8)).block, (ad.add (j * 8)).off + 5, none⟩ = some (.int .i64 x5) ∧ w'.cell? ⟨(ad.add (j * 8)).block, (ad.add (j * 8)).off + 6, none⟩ = some (.int .i64 x6) ∧ w'.cell? ⟨(ad.add (j * 8)).block, (ad.add (j * 8)).off + 7, none⟩ = some (.string x7) ∧ w'.cell? (ad.add (j1 * 8)) = some (.string y0) ∧ w'.cell? ⟨(ad.add (j1 * 8)).block, (ad.add (j1 * 8)).off + 1, none⟩ = some (.int .i64 y1) ∧ w'.cell? ⟨(ad.add (j1 * 8)).block, (ad.add (j1 * 8)).off + 2, none⟩ = some (.int .u32 y2) ∧ w'.cell? ⟨(ad.add (j1 * 8)).block, (ad.add (j1 * 8)).off + 3, none⟩ = some (.int .u32 y3) ∧ w'.cell? ⟨(ad.add (j1 * 8)).block, (ad.add (j1 * 8)).off + 4, none⟩ = some (.int .u32 y4) ∧ w'.cell? ⟨(ad.add (j1 * 8)).block, (ad.add (j1 * 8)).off + 5, none⟩ = some (.int .i64 y5) ∧ w'.cell? ⟨(ad.add (j1 * 8)).block, (ad.add (j1 * 8)).off + 6, none⟩ = some (.int .i64 y6) ∧ w'.cell? ⟨(ad.add (j1 * 8)).block, (ad.add (j1 * 8)).off + 7, none⟩ = some (.string y7)) (ds := [14]) #[false, false, false, false, false, false, false, false, false, false, false, false, false, false, false, false, false] (by kernel_rfl) rfl rfl ⟨e0, e1, e2, e3, e4, e5, e6, e7, f0, f1, f2, f3, f4, f5, f6, f7⟩ (fun hHeld => ?_)
     have HRd := Lib.hid (Row.below HR.out (below_drew (Below.refl wr.heap.size wr)))
     have HGd := Lib.hid (grown_drew HG.out)
     generalize wr.drew = W1 at *
     refine pure_ (i := 0) (N := some 18) (v := ?_) (a' := ?_) #[true, false, false, false, false, false, false, false, false, false, false, false, false, false, false, false, false] rfl rfl (by kernel_rfl) (fun _ _ _ h => h) (Or.inl ⟨by rfl, ?_⟩) ?_ ?_
     rotate_left
     ·
      intro w'
      go_simp
      with_reducible rfl
     rotate_left
     ·
      simp only [Act.put, Own.na, Own.nz, Own.ns, i64_w, i32_w]
      rfl
     refine pure_ (i := 1) (N := some 19) (v := ?_) (a' := ?_) #[true, true, false, false, false, false, false, false, false, false, false, false, false, false, false, false, false] rfl rfl (by kernel_rfl) (fun _ _ _ h => h) (Or.inl ⟨by rfl, ?_⟩) ?_ ?_
     rotate_left
     ·
      intro w'
      go_simp
      with_reducible rfl
     rotate_left
     ·
      simp only [Act.put, Own.na, Own.nz, Own.ns, i64_w, i32_w]
      rfl
     refine pure_ (i := 2) (N := some 20) (v := ?_) (a' := ?_) #[true, true, true, false, false, false, false, false, false, false, false, false, false, false, false, false, false] rfl rfl (by kernel_rfl) (fun _ _ _ h => h) (Or.inl ⟨by rfl, ?_⟩) ?_ ?_
     rotate_left
     ·
      intro w'
      go_simp
      with_reducible rfl
     rotate_left
     ·
      simp only [Act.put, Own.na, Own.nz, Own.ns, i64_w, i32_w]
      rfl
     refine pure_ (i := 3) (N := some 21) (v := ?_) (a' := ?_) #[true, true, true, true, false, false, false, false, false, false, false, false, false, false, false, false, false] rfl rfl (by kernel_rfl) (fun _ _ _ h => h) (Or.inl ⟨by rfl, ?_⟩) ?_ ?_
     rotate_left
     ·
      intro w'
      go_simp
      with_reducible rfl
     rotate_left
     ·
      simp only [Act.put, Own.na, Own.nz, Own.ns, i64_w, i32_w]
      rfl
     refine pure_ (i := 4) (N := some 22) (v := ?_) (a' := ?_) #[true, true, true, true, true, false, false, false, false, false, false, false, false, false, false, false, false] rfl rfl (by kernel_rfl) (fun _ _ _ h => h) (Or.inl ⟨by rfl, ?_⟩) ?_ ?_
     rotate_left
     ·
      intro w'
      go_simp
      with_reducible rfl
     rotate_left
     ·
      simp only [Act.put, Own.na, Own.nz, Own.ns, i64_w, i32_w]
      rfl
     refine pure_ (i := 5) (N := some 23) (v := ?_) (a' := ?_) #[true, true, true, true, true, true, false, false, false, false, false, false, false, false, false, false, false] rfl rfl (by kernel_rfl) (fun _ _ _ h => h) (Or.inl ⟨by rfl, ?_⟩) ?_ ?_
     rotate_left
     ·
      intro w'
      go_simp
      with_reducible rfl
     rotate_left
     ·
      simp only [Act.put, Own.na, Own.nz, Own.ns, i64_w, i32_w]
      rfl
     refine pure_ (i := 6) (N := some 24) (v := ?_) (a' := ?_) #[true, true, true, true, true, true, true, false, false, false, false, false, false, false, false, false, false] rfl rfl (by kernel_rfl) (fun _ _ _ h => h) (Or.inl ⟨by rfl, ?_⟩) ?_ ?_
     rotate_left
     ·
      intro w'
      go_simp
      with_reducible rfl
     rotate_left
     ·
      simp only [Act.put, Own.na, Own.nz, Own.ns, i64_w, i32_w]
      rfl
     refine pure_ (i := 7) (N := some 25) (v := ?_) (a' := ?_) #[true, true, true, true, true, true, true, true, false, false, false, false, false, false, false, false, false] rfl rfl (by kernel_rfl) (fun _ _ _ h => h) (Or.inl ⟨by rfl, ?_⟩) ?_ ?_
     rotate_left
     ·
      intro w'
      go_simp
      with_reducible rfl
     rotate_left
     ·
      simp only [Act.put, Own.na, Own.nz, Own.ns, i64_w, i32_w]
      rfl
     refine pure_ (i := 9) (N := some 27) (v := ?_) (a' := ?_) #[true, true, true, true, true, true, true, true, false, true, false, false, false, false, false, false, false] rfl rfl (by kernel_rfl) (fun _ _ _ h => h) (Or.inl ⟨by rfl, ?_⟩) ?_ ?_
     rotate_left
     ·
      intro w'
      go_simp
      with_reducible rfl
     rotate_left
     ·
      simp only [Act.put, Own.na, Own.nz, Own.ns, i64_w, i32_w]
      rfl
     refine pure_ (i := 10) (N := some 28) (v := ?_) (a' := ?_) #[true, true, true, true, true, true, true, true, false, true, true, false, false, false, false, false, false] rfl rfl (by kernel_rfl) (fun _ _ _ h => h) (Or.inl ⟨by rfl, ?_⟩) ?_ ?_
     rotate_left
     ·
      intro w'
      go_simp
      with_reducible rfl
     rotate_left
     ·
      simp only [Act.put, Own.na, Own.nz, Own.ns, i64_w, i32_w]
      rfl
     refine pure_ (i := 11) (N := some 29) (v := ?_) (a' := ?_) #[true, true, true, true, true, true, true, true, false, true, true, true, false, false, false, false, false] rfl rfl (by kernel_rfl) (fun _ _ _ h => h) (Or.inl ⟨by rfl, ?_⟩) ?_ ?_
     rotate_left
     ·
      intro w'
      go_simp
      with_reducible rfl
     rotate_left
     ·
      simp only [Act.put, Own.na, Own.nz, Own.ns, i64_w, i32_w]
      rfl
     refine pure_ (i := 12) (N := some 30) (v := ?_) (a' := ?_) #[true, true, true, true, true, true, true, true, false, true, true, true, true, false, false, false, false] rfl rfl (by kernel_rfl) (fun _ _ _ h => h) (Or.inl ⟨by rfl, ?_⟩) ?_ ?_
     rotate_left
     ·
      intro w'
      go_simp
      with_reducible rfl
     rotate_left
     ·
      simp only [Act.put, Own.na, Own.nz, Own.ns, i64_w, i32_w]
      rfl
     refine take_ (i := 8) (N := some 26) (v := ?_) (a' := ?_) #[true, true, true, true, true, true, true, true, true, true, true, true, true, false, false, false, false] rfl rfl (by kernel_rfl) (fun _ _ _ h => h) (Or.inl ⟨by rfl, ?_⟩) hHeld ?_ ?_
     rotate_left
     ·
      rintro w' ⟨s0, s1, s2, s3, s4, s5, s6, s7, s8, s9, s10, s11, s12, s13, s14, s15⟩
      go_simp
      with_reducible rfl
     rotate_left
     ·
      simp only [Act.put, Own.na, Own.nz, Own.ns, i64_w, i32_w]
      rfl
     refine take_ (i := 13) (N := some 31) (v := ?_) (a' := ?_) #[true, true, true, true, true, true, true, true, true, true, true, true, true, true, false, false, false] rfl rfl (by kernel_rfl) (fun _ _ _ h => h) (Or.inl ⟨by rfl, ?_⟩) hHeld ?_ ?_
     rotate_left
     ·
      rintro w' ⟨s0, s1, s2, s3, s4, s5, s6, s7, s8, s9, s10, s11, s12, s13, s14, s15⟩
      go_simp
      with_reducible rfl
     rotate_left
     ·
      simp only [Act.put, Own.na, Own.nz, Own.ns, i64_w, i32_w]
      rfl
     refine last_ (i := 14) (N := some 32) #[true, true, true, true, true, true, true, true, true, true, true, true, true, true, true, false, false] rfl rfl (by kernel_rfl) (by decide) (fun K hK => ?_)
     refine goesC_ (x := 22) (fn := Tryz.f110) (f := 110) Tryz.func110 (by kernel_rfl) rfl #[.agg #[.string x0, .int .i64 x1, .int .u32 x2, .int .u32 x3, .int .u32 x4, .int .i64 x5, .int .i64 x6, .string x7], .agg #[.string y0, .int .i64 y1, .int .u32 y2, .int .u32 y3, .int .u32 y4, .int .i64 y5, .int .i64 y6, .string y7]] (by rfl) rfl rfl rfl (by simp only [List.map_toArray, List.map_cons, List.map_nil]; rfl) ?_
     with_reducible refine (cmp_any x0 x1 x2 x3 x4 x5 x6 x7 y0 y1 y2 y3 y4 y5 y6 y7 W1 (HGL.out.below (below_row HB.out HGd.out HNG.out)) HSX.out HSY.out).mono ?_
     rintro e W4 ⟨rfl, hbc⟩
     have HRc := Lib.hid (HRd.out.below hbc)
     have HGc := Lib.hid (grown_below HGd.out hbc)
     clear hbc
     refine ⟨_, rfl, ?_⟩
     generalize orderT x0 y0 = rr at *
     refine hK.out _ _ ?_
     clear hK K
     refine norm_ (a' := ?_) ?_ ?_
     rotate_left
     ·
      show Act.put _ (some 32) _ = _
      simp only [Act.put, Own.na, Own.nz, Own.ns, i64_w, i32_w]
      rfl
     refine pure_ (i := 15) (N := some 33) (v := ?_) (a' := ?_) #[true, true, true, true, true, true, true, true, true, true, true, true, true, true, true, true, false] rfl rfl (by kernel_rfl) (fun _ _ _ h => h) (Or.inl ⟨by rfl, ?_⟩) ?_ ?_
     rotate_left
     ·
      intro w'
      go_simp
      with_reducible rfl
     rotate_left
     ·
      simp only [Act.put, Own.na, Own.nz, Own.ns, i64_w, i32_w]
      rfl
     refine pure_ (i := 16) (N := some 34) (v := ?_) (a' := ?_) #[true, true, true, true, true, true, true, true, true, true, true, true, true, true, true, true, true] rfl rfl (by kernel_rfl) (fun _ _ _ h => h) (Or.inl ⟨by rfl, ?_⟩) ?_ ?_
     rotate_left
     ·
      intro w'
      go_simp
      with_reducible rfl
     rotate_left
     ·
      simp only [Act.put, Own.na, Own.nz, Own.ns, i64_w, i32_w]
      rfl
     refine done_ (by kernel_rfl) ?_
     clear e0 e1 e2 e3 e4 e5 e6 e7 f0 f1 f2 f3 f4 f5 f6 f7
     clear HR HRd HG HGd
     by_cases hr : rr < 0
     ·
      have q1 : decide (rr < 0) = true := decide_eq_true hr
      have HLT2 : Hid (ltI (x0, x1, x2, x3, x4, x5, x6, x7) (y0, y1, y2, y3, y4, y5, y6, y7) = true) := Lib.hid (by rw [HLT.out]; exact q1)
      clear HLT
      obtain ⟨e0, e1, e2, e3, e4, e5, e6, e7⟩ := row_load HRc.out HAD.out HX.out
      obtain ⟨f0, f1, f2, f3, f4, f5, f6, f7⟩ := row_load HRc.out HAD.out HY.out
      simp only at e0 e1 e2 e3 e4 e5 e6 e7 f0 f1 f2 f3 f4 f5 f6 f7
      go_wp2_with fail
      refine start_ (n := 18) (S := fun w' => w'.cell? (ad.add (j * 8)) = some (.string x0) ∧ w'.cell? ⟨(ad.add (j * 8)).block, (ad.add (j * 8)).off + 1, none⟩ = some (.int .i64 x1) ∧ w'.cell? ⟨(ad.add (j * 8)).block, (ad.add (j * 8)).off + 2, none⟩ = some (.int .u32 x2) ∧ w'.cell? ⟨(ad.add (j * 8)).block, (ad.add (j * 8)).off + 3, none⟩ = some (.int .u32 x3) ∧ w'.cell? ⟨(ad.add (j * 8)).block, (ad.add (j * 8)).off + 4, none⟩ = some (.int .u32 x4) ∧ w'.cell? ⟨(ad.add (j * 8)).block, (ad.add (j * 8)).off + 5, none⟩ = some (.int .i64 x5) ∧ w'.cell? ⟨(ad.add (j * 8)).block, (ad.add (j * 8)).off + 6, none⟩ = some (.int .i64 x6) ∧ w'.cell? ⟨(ad.add (j * 8)).block, (ad.add (j * 8)).off + 7, none⟩ = some (.string x7) ∧ w'.cell? (ad.add (j1 * 8)) = some (.string y0) ∧ w'.cell? ⟨(ad.add (j1 * 8)).block, (ad.add (j1 * 8)).off + 1, none⟩ = some (.int .i64 y1) ∧ w'.cell? ⟨(ad.add (j1 * 8)).block, (ad.add (j1 * 8)).off + 2, none⟩ = some (.int .u32 y2) ∧ w'.cell? ⟨(ad.add (j1 * 8)).block, (ad.add (j1 * 8)).off + 3, none⟩ = some (.int .u32 y3) ∧ w'.cell? ⟨(ad.add (j1 * 8)).block, (ad.add (j1 * 8)).off + 4, none⟩ = some (.int .u32 y4) ∧ w'.cell? ⟨(ad.add (j1 * 8)).block, (ad.add (j1 * 8)).off + 5, none⟩ = some (.int .i64 y5) ∧ w'.cell? ⟨(ad.add (j1 * 8)).block, (ad.add (j1 * 8)).off + 6, none⟩ = some (.int .i64 y6) ∧ w'.cell? ⟨(ad.add (j1 * 8)).block, (ad.add (j1 * 8)).off + 7, none⟩ = some (.string y7)) (ds := [15, 17]) #[false, false, false, false, false, false, false, false, false, false, false, false, false, false, false, false, false, false] (by kernel_rfl) rfl rfl ⟨e0, e1, e2, e3, e4, e5, e6, e7, f0, f1, f2, f3, f4, f5, f6, f7⟩ (fun hHeld => ?_)
      have HRd := Lib.hid (Row.below HRc.out (below_drew (Below.refl W4.heap.size W4)))
      have HGd := Lib.hid (grown_drew HGc.out)
      generalize W4.drew = W1 at *
      refine pure_ (i := 0) (N := some 37) (v := ?_) (a' := ?_) #[true, false, false, false, false, false, false, false, false, false, false, false, false, false, false, false, false, false] rfl rfl (by kernel_rfl) (fun _ _ _ h => h) (Or.inl ⟨by rfl, ?_⟩) ?_ ?_
      rotate_left
      ·
       intro w'
       go_simp
       with_reducible rfl
      rotate_left
      ·
       simp only [Act.put, Own.na, Own.nz, Own.ns, i64_w, i32_w]
       rfl
      refine pure_ (i := 1) (N := some 38) (v := ?_) (a' := ?_) #[true, true, false, false, false, false, false, false, false, false, false, false, false, false, false, false, false, false] rfl rfl (by kernel_rfl) (fun _ _ _ h => h) (Or.inl ⟨by rfl, ?_⟩) ?_ ?_
      rotate_left
      ·
       intro w'
       go_simp
       with_reducible rfl
      rotate_left
      ·
       simp only [Act.put, Own.na, Own.nz, Own.ns, i64_w, i32_w]
       rfl
      refine pure_ (i := 2) (N := some 39) (v := ?_) (a' := ?_) #[true, true, true, false, false, false, false, false, false, false, false, false, false, false, false, false, false, false] rfl rfl (by kernel_rfl) (fun _ _ _ h => h) (Or.inl ⟨by rfl, ?_⟩) ?_ ?_
      rotate_left
      ·
       intro w'
       go_simp
       with_reducible rfl
      rotate_left
      ·
       simp only [Act.put, Own.na, Own.nz, Own.ns, i64_w, i32_w]
       rfl
      refine pure_ (i := 3) (N := some 40) (v := ?_) (a' := ?_) #[true, true, true, true, false, false, false, false, false, false, false, false, false, false, false, false, false, false] rfl rfl (by kernel_rfl) (fun _ _ _ h => h) (Or.inl ⟨by rfl, ?_⟩) ?_ ?_
      rotate_left
      ·
       intro w'
       go_simp
       with_reducible rfl
      rotate_left
      ·
       simp only [Act.put, Own.na, Own.nz, Own.ns, i64_w, i32_w]
       rfl
      refine pure_ (i := 4) (N := some 41) (v := ?_) (a' := ?_) #[true, true, true, true, true, false, false, false, false, false, false, false, false, false, false, false, false, false] rfl rfl (by kernel_rfl) (fun _ _ _ h => h) (Or.inl ⟨by rfl, ?_⟩) ?_ ?_
      rotate_left
      ·
       intro w'
       go_simp
       with_reducible rfl
      rotate_left
      ·
       simp only [Act.put, Own.na, Own.nz, Own.ns, i64_w, i32_w]
       rfl
      refine pure_ (i := 5) (N := some 42) (v := ?_) (a' := ?_) #[true, true, true, true, true, true, false, false, false, false, false, false, false, false, false, false, false, false] rfl rfl (by kernel_rfl) (fun _ _ _ h => h) (Or.inl ⟨by rfl, ?_⟩) ?_ ?_
      rotate_left
      ·
       intro w'
       go_simp
       with_reducible rfl
      rotate_left
      ·
       simp only [Act.put, Own.na, Own.nz, Own.ns, i64_w, i32_w]
       rfl
      refine pure_ (i := 6) (N := some 43) (v := ?_) (a' := ?_) #[true, true, true, true, true, true, true, false, false, false, false, false, false, false, false, false, false, false] rfl rfl (by kernel_rfl) (fun _ _ _ h => h) (Or.inl ⟨by rfl, ?_⟩) ?_ ?_
      rotate_left
      ·
       intro w'
       go_simp
       with_reducible rfl
      rotate_left
      ·
       simp only [Act.put, Own.na, Own.nz, Own.ns, i64_w, i32_w]
       rfl
      refine pure_ (i := 7) (N := some 44) (v := ?_) (a' := ?_) #[true, true, true, true, true, true, true, true, false, false, false, false, false, false, false, false, false, false] rfl rfl (by kernel_rfl) (fun _ _ _ h => h) (Or.inl ⟨by rfl, ?_⟩) ?_ ?_
      rotate_left
      ·
       intro w'
       go_simp
       with_reducible rfl
      rotate_left
      ·
       simp only [Act.put, Own.na, Own.nz, Own.ns, i64_w, i32_w]
       rfl
      refine pure_ (i := 8) (N := some 45) (v := ?_) (a' := ?_) #[true, true, true, true, true, true, true, true, true, false, false, false, false, false, false, false, false, false] rfl rfl (by kernel_rfl) (fun _ _ _ h => h) (Or.inl ⟨by rfl, ?_⟩) ?_ ?_
      rotate_left
      ·
       intro w'
       go_simp
       with_reducible rfl
      rotate_left
      ·
       simp only [Act.put, Own.na, Own.nz, Own.ns, i64_w, i32_w]
       rfl
      refine pure_ (i := 10) (N := some 47) (v := ?_) (a' := ?_) #[true, true, true, true, true, true, true, true, true, false, true, false, false, false, false, false, false, false] rfl rfl (by kernel_rfl) (fun _ _ _ h => h) (Or.inl ⟨by rfl, ?_⟩) ?_ ?_
      rotate_left
      ·
       intro w'
       go_simp
       with_reducible rfl
      rotate_left
      ·
       simp only [Act.put, Own.na, Own.nz, Own.ns, i64_w, i32_w]
       rfl
      refine pure_ (i := 11) (N := some 48) (v := ?_) (a' := ?_) #[true, true, true, true, true, true, true, true, true, false, true, true, false, false, false, false, false, false] rfl rfl (by kernel_rfl) (fun _ _ _ h => h) (Or.inl ⟨by rfl, ?_⟩) ?_ ?_
      rotate_left
      ·
       intro w'
       go_simp
       with_reducible rfl
      rotate_left
      ·
       simp only [Act.put, Own.na, Own.nz, Own.ns, i64_w, i32_w]
       rfl
      refine pure_ (i := 12) (N := some 49) (v := ?_) (a' := ?_) #[true, true, true, true, true, true, true, true, true, false, true, true, true, false, false, false, false, false] rfl rfl (by kernel_rfl) (fun _ _ _ h => h) (Or.inl ⟨by rfl, ?_⟩) ?_ ?_
      rotate_left
      ·
       intro w'
       go_simp
       with_reducible rfl
      rotate_left
      ·
       simp only [Act.put, Own.na, Own.nz, Own.ns, i64_w, i32_w]
       rfl
      refine take_ (i := 9) (N := some 46) (v := ?_) (a' := ?_) #[true, true, true, true, true, true, true, true, true, true, true, true, true, false, false, false, false, false] rfl rfl (by kernel_rfl) (fun _ _ _ h => h) (Or.inl ⟨by rfl, ?_⟩) hHeld ?_ ?_
      rotate_left
      ·
       rintro w' ⟨s0, s1, s2, s3, s4, s5, s6, s7, s8, s9, s10, s11, s12, s13, s14, s15⟩
       go_simp
       with_reducible rfl
      rotate_left
      ·
       simp only [Act.put, Own.na, Own.nz, Own.ns, i64_w, i32_w]
       rfl
      refine take_ (i := 13) (N := some 50) (v := ?_) (a' := ?_) #[true, true, true, true, true, true, true, true, true, true, true, true, true, true, false, false, false, false] rfl rfl (by kernel_rfl) (fun _ _ _ h => h) (Or.inl ⟨by rfl, ?_⟩) hHeld ?_ ?_
      rotate_left
      ·
       rintro w' ⟨s0, s1, s2, s3, s4, s5, s6, s7, s8, s9, s10, s11, s12, s13, s14, s15⟩
       go_simp
       with_reducible rfl
      rotate_left
      ·
       simp only [Act.put, Own.na, Own.nz, Own.ns, i64_w, i32_w]
       rfl
      refine pure_ (i := 14) (N := some 51) (v := ?_) (a' := ?_) #[true, true, true, true, true, true, true, true, true, true, true, true, true, true, true, false, false, false] rfl rfl (by kernel_rfl) (fun _ _ _ h => h) (Or.inl ⟨by rfl, ?_⟩) ?_ ?_
      rotate_left
      ·
       intro w'
       go_simp
       with_reducible rfl
      rotate_left
      ·
       simp only [Act.put, Own.na, Own.nz, Own.ns, i64_w, i32_w]
       rfl
      refine last_ (i := 15) (N := none) #[true, true, true, true, true, true, true, true, true, true, true, true, true, true, true, true, false, false] rfl rfl (by kernel_rfl) (by decide) (fun K hK => ?_)
      refine skip_ (w1 := _) (by rfl) rfl (store_item (k := j) (y0, y1, y2, y3, y4, y5, y6, y7) rfl rfl rfl HAD.out HRd.out HX.out) ?_
      have hs1 := row_set (y0, y1, y2, y3, y4, y5, y6, y7) HRd.out HX.out
      have HR2 := Lib.hid hs1.1
      have HG2 := Lib.hid (grown_trans HGd.out hs1.2)
      clear hs1
      generalize W1.setCells g (j * 8) (cellsI (y0, y1, y2, y3, y4, y5, y6, y7)) = W2 at *
      refine hK.out _ _ ?_
      clear hK K
      refine pure_ (i := 16) (N := some 52) (v := ?_) (a' := ?_) #[true, true, true, true, true, true, true, true, true, true, true, true, true, true, true, true, true, false] rfl rfl (by kernel_rfl) (fun _ _ _ h => h) (Or.inl ⟨by rfl, ?_⟩) ?_ ?_
      rotate_left
      ·
       intro w'
       go_simp
       with_reducible rfl
      rotate_left
      ·
       simp only [Act.put, Own.na, Own.nz, Own.ns, i64_w, i32_w]
       rfl
      refine last_ (i := 17) (N := none) #[true, true, true, true, true, true, true, true, true, true, true, true, true, true, true, true, true, true] rfl rfl (by kernel_rfl) (by decide) (fun K hK => ?_)
      refine skip_ (w1 := _) (by rfl) rfl (store_item (k := j1) (x0, x1, x2, x3, x4, x5, x6, x7) rfl rfl rfl HAD.out HR2.out HZ2.out) ?_
      have hs1 := row_set (x0, x1, x2, x3, x4, x5, x6, x7) HR2.out HZ2.out
      have HR3 := Lib.hid hs1.1
      have HG3 := Lib.hid (grown_trans HG2.out hs1.2)
      clear hs1
      generalize W2.setCells g (j1 * 8) (cellsI (x0, x1, x2, x3, x4, x5, x6, x7)) = W3 at *
      refine hK.out _ _ ?_
      clear hK K
      refine done_ (by kernel_rfl) ?_
      clear e0 e1 e2 e3 e4 e5 e6 e7 f0 f1 f2 f3 f4 f5 f6 f7
      have HI3 : Hid (∃ s1 s2 : List It, s1.length + a = j1 ∧ s1 ++ s2 = s ∧ (∀ y ∈ s2, ltI (x0, x1, x2, x3, x4, x5, x6, x7) y = true) ∧ Row W3 W0.heap.size g N c (p ++ (s1 ++ (x0, x1, x2, x3, x4, x5, x6, x7) :: (s2 ++ (r ++ q))))) := Lib.hid ⟨s3, (y0, y1, y2, y3, y4, y5, y6, y7) :: s2, by have := HJ.out; omega, by rw [← HK2.out, HS3.out]; simp, by
       intro z hz
       rcases List.mem_cons.1 hz with e | e
       ·
        rw [e]; exact HLT2.out
       ·
        exact HK3.out z e, by
       have h := HR3.out
       have e := HSW.out
       unfold swapL at e
       rw [e] at h
       simpa using h⟩
      have hj1g : j1 + 1 = j := by have := HJ.out; omega
      clear HRc HGc HRd HGd HR2 HG2 HR3 HX HY HZ2 HSW HLH HS3 HK1 HK2 HK3
      go_wp2
      go_roundg (gk - 1)
      case measure => omega
      case rel => exact ⟨j1, by go_num, by omega, by omega, by omega, HI3, HG3⟩
     ·
      have q1 : decide (rr < 0) = false := decide_eq_false hr
      have HI3 : Hid (∃ t s r : List It, s0 = t ++ r ∧ i + 1 = a + t.length ∧ Stb ltI t s ∧ Row W4 W0.heap.size g N c (p ++ (s ++ (r ++ q)))) := Lib.hid ⟨t ++ [(x0, x1, x2, x3, x4, x5, x6, x7)], s1 ++ (x0, x1, x2, x3, x4, x5, x6, x7) :: s2, r, by rw [HE0.out]; simp, by rw [List.length_append, List.length_singleton]; have := HE1.out; omega, by
       have hst := HST.out
       rw [← HK2.out] at hst
       refine ins_done swoI (s := []) hst.2 hst ?_ HK3.out
       intro z hz
       rw [HS3.out, List.getLast?_concat] at hz
       injection hz with hz
       rw [← hz, HLT.out]
       exact q1, by
       have h := HRc.out
       rw [HLH.out] at h
       simpa using h⟩
      clear HRc HX HY HZ2 HSW HLH HS3 HK1 HK2 HK3 HLT
      go_wp2
      go_roundg (go - 1)
      case measure => omega
      case rel => exact ⟨i + 1, by go_num, by omega, HI3, HGc⟩
    ·
     have hajI : ¬ (a : Int) < (j : Int) := by omega
     have q0 : decide ((a : Int) < (j : Int)) = false := decide_eq_false hajI
     have hs1 : s1 = [] := List.eq_nil_of_length_eq_zero (by omega)
     subst hs1
     clear k1 k2 k3 hR
     go_wp2_with fail
     refine start_ (n := 17) (S := fun w' => True) (ds := []) #[false, false, false, false, false, false, false, false, false, false, false, false, false, false, false, false, false] (by kernel_rfl) rfl rfl trivial (fun hHeld => ?_)
     have HRd := Lib.hid (Row.below HR.out (below_drew (Below.refl wr.heap.size wr)))
     have HGd := Lib.hid (grown_drew HG.out)
     generalize wr.drew = W1 at *
     refine pure_ (i := 0) (N := some 18) (v := ?_) (a' := ?_) #[true, false, false, false, false, false, false, false, false, false, false, false, false, false, false, false, false] rfl rfl (by kernel_rfl) (fun _ _ _ h => h) (Or.inl ⟨by rfl, ?_⟩) ?_ ?_
     rotate_left
     ·
      intro w'
      go_simp
      with_reducible rfl
     rotate_left
     ·
      simp only [Act.put, Own.na, Own.nz, Own.ns, i64_w, i32_w]
      rfl
     refine pure_ (i := 1) (N := some 19) (v := ?_) (a' := ?_) #[true, true, false, false, false, false, false, false, false, false, false, false, false, false, false, false, false] rfl rfl (by kernel_rfl) (fun _ _ _ h => h) (Or.inl ⟨by rfl, ?_⟩) ?_ ?_
     rotate_left
     ·
      intro w'
      go_simp
      with_reducible rfl
     rotate_left
     ·
      simp only [Act.put, Own.na, Own.nz, Own.ns, i64_w, i32_w]
      rfl
     refine pure_ (i := 2) (N := some 20) (v := ?_) (a' := ?_) #[true, true, true, false, false, false, false, false, false, false, false, false, false, false, false, false, false] rfl rfl (by kernel_rfl) (fun _ _ _ h => h) (Or.inl ⟨by rfl, ?_⟩) ?_ ?_
     rotate_left
     ·
      intro w'
      go_simp
      with_reducible rfl
     rotate_left
     ·
      simp only [Act.put, Own.na, Own.nz, Own.ns, i64_w, i32_w]
      rfl
     refine pure_ (i := 3) (N := some 21) (v := ?_) (a' := ?_) #[true, true, true, true, false, false, false, false, false, false, false, false, false, false, false, false, false] rfl rfl (by kernel_rfl) (fun _ _ _ h => h) (Or.inl ⟨by rfl, ?_⟩) ?_ ?_
     rotate_left
     ·
      intro w'
      go_simp
      with_reducible rfl
     rotate_left
     ·
      simp only [Act.put, Own.na, Own.nz, Own.ns, i64_w, i32_w]
      rfl
     refine pure_ (i := 4) (N := some 22) (v := undef) (a' := ?_) #[true, true, true, true, true, false, false, false, false, false, false, false, false, false, false, false, false] rfl rfl (by kernel_rfl) (fun _ _ _ h => h) (Or.inr ⟨by rfl, rfl⟩) ?_ ?_
     rotate_left
     ·
      simp only [Act.put, Own.na, Own.nz, Own.ns, i64_w, i32_w]
      rfl
     refine pure_ (i := 5) (N := some 23) (v := undef) (a' := ?_) #[true, true, true, true, true, true, false, false, false, false, false, false, false, false, false, false, false] rfl rfl (by kernel_rfl) (fun _ _ _ h => h) (Or.inr ⟨by rfl, rfl⟩) ?_ ?_
     rotate_left
     ·
      simp only [Act.put, Own.na, Own.nz, Own.ns, i64_w, i32_w]
      rfl
     refine pure_ (i := 6) (N := some 24) (v := undef) (a' := ?_) #[true, true, true, true, true, true, true, false, false, false, false, false, false, false, false, false, false] rfl rfl (by kernel_rfl) (fun _ _ _ h => h) (Or.inr ⟨by rfl, rfl⟩) ?_ ?_
     rotate_left
     ·
      simp only [Act.put, Own.na, Own.nz, Own.ns, i64_w, i32_w]
      rfl
     refine pure_ (i := 7) (N := some 25) (v := undef) (a' := ?_) #[true, true, true, true, true, true, true, true, false, false, false, false, false, false, false, false, false] rfl rfl (by kernel_rfl) (fun _ _ _ h => h) (Or.inr ⟨by rfl, rfl⟩) ?_ ?_
     rotate_left
     ·
      simp only [Act.put, Own.na, Own.nz, Own.ns, i64_w, i32_w]
      rfl
     refine pure_ (i := 8) (N := some 26) (v := undef) (a' := ?_) #[true, true, true, true, true, true, true, true, true, false, false, false, false, false, false, false, false] rfl rfl (by kernel_rfl) (fun _ _ _ h => h) (Or.inr ⟨by rfl, rfl⟩) ?_ ?_
     rotate_left
     ·
      simp only [Act.put, Own.na, Own.nz, Own.ns, i64_w, i32_w]
      rfl
     refine pure_ (i := 9) (N := some 27) (v := undef) (a' := ?_) #[true, true, true, true, true, true, true, true, true, true, false, false, false, false, false, false, false] rfl rfl (by kernel_rfl) (fun _ _ _ h => h) (Or.inr ⟨by rfl, rfl⟩) ?_ ?_
     rotate_left
     ·
      simp only [Act.put, Own.na, Own.nz, Own.ns, i64_w, i32_w]
      rfl
     refine pure_ (i := 10) (N := some 28) (v := undef) (a' := ?_) #[true, true, true, true, true, true, true, true, true, true, true, false, false, false, false, false, false] rfl rfl (by kernel_rfl) (fun _ _ _ h => h) (Or.inr ⟨by rfl, rfl⟩) ?_ ?_
     rotate_left
     ·
      simp only [Act.put, Own.na, Own.nz, Own.ns, i64_w, i32_w]
      rfl
     refine pure_ (i := 11) (N := some 29) (v := undef) (a' := ?_) #[true, true, true, true, true, true, true, true, true, true, true, true, false, false, false, false, false] rfl rfl (by kernel_rfl) (fun _ _ _ h => h) (Or.inr ⟨by rfl, rfl⟩) ?_ ?_
     rotate_left
     ·
      simp only [Act.put, Own.na, Own.nz, Own.ns, i64_w, i32_w]
      rfl
     refine pure_ (i := 12) (N := some 30) (v := undef) (a' := ?_) #[true, true, true, true, true, true, true, true, true, true, true, true, true, false, false, false, false] rfl rfl (by kernel_rfl) (fun _ _ _ h => h) (Or.inr ⟨by rfl, rfl⟩) ?_ ?_
     rotate_left
     ·
      simp only [Act.put, Own.na, Own.nz, Own.ns, i64_w, i32_w]
      rfl
     refine pure_ (i := 13) (N := some 31) (v := undef) (a' := ?_) #[true, true, true, true, true, true, true, true, true, true, true, true, true, true, false, false, false] rfl rfl (by kernel_rfl) (fun _ _ _ h => h) (Or.inr ⟨by rfl, rfl⟩) ?_ ?_
     rotate_left
     ·
      simp only [Act.put, Own.na, Own.nz, Own.ns, i64_w, i32_w]
      rfl
     refine pure_ (i := 14) (N := some 32) (v := undef) (a' := ?_) #[true, true, true, true, true, true, true, true, true, true, true, true, true, true, true, false, false] rfl rfl (by kernel_rfl) (fun _ _ _ h => h) (Or.inr ⟨by rfl, rfl⟩) ?_ ?_
     rotate_left
     ·
      simp only [Act.put, Own.na, Own.nz, Own.ns, i64_w, i32_w]
      rfl
     refine pure_ (i := 15) (N := some 33) (v := undef) (a' := ?_) #[true, true, true, true, true, true, true, true, true, true, true, true, true, true, true, true, false] rfl rfl (by kernel_rfl) (fun _ _ _ h => h) (Or.inr ⟨by rfl, rfl⟩) ?_ ?_
     rotate_left
     ·
      simp only [Act.put, Own.na, Own.nz, Own.ns, i64_w, i32_w]
      rfl
     refine pure_ (i := 16) (N := some 34) (v := ?_) (a' := ?_) #[true, true, true, true, true, true, true, true, true, true, true, true, true, true, true, true, true] rfl rfl (by kernel_rfl) (fun _ _ _ h => h) (Or.inl ⟨by rfl, ?_⟩) ?_ ?_
     rotate_left
     ·
      intro w'
      go_simp
      with_reducible rfl
     rotate_left
     ·
      simp only [Act.put, Own.na, Own.nz, Own.ns, i64_w, i32_w]
      rfl
     refine done_ (by kernel_rfl) ?_
     have HI3 : Hid (∃ t s r : List It, s0 = t ++ r ∧ i + 1 = a + t.length ∧ Stb ltI t s ∧ Row W1 W0.heap.size g N c (p ++ (s ++ (r ++ q)))) := Lib.hid ⟨t ++ [(x0, x1, x2, x3, x4, x5, x6, x7)], (x0, x1, x2, x3, x4, x5, x6, x7) :: s2, r, by rw [HE0.out]; simp, by rw [List.length_append, List.length_singleton]; have := HE1.out; omega, by
      have hst := HST.out
      rw [← HK2.out] at hst
      exact ins_done swoI (s := []) (p := []) hst.2 hst (by simp) HK3.out, by simpa using HRd.out⟩
     clear HR HRd HK1 HK2 HK3
     go_wp2
     go_roundg (go - 1)
     case measure => omega
     case rel => exact ⟨i + 1, by go_num, by omega, HI3, HGd⟩
  ·
   have hltI : ¬ (i : Int) < (b : Int) := by omega
   have hr : r = [] := by
    have h1 := HBL.out
    rw [e0, List.length_append] at h1
    exact List.eq_nil_of_length_eq_zero (by omega)
   subst hr
   clear e0 e1
   go_wp2
   go_end0
   exact ⟨rfl, ⟨s, HR0.out, by have e := HE0.out; rw [List.append_nil] at e; rw [e]; exact HST.out⟩, HG0.out⟩
end Go.Proofs.YtibmfjacfbpfgaaGreatDoor.SortIns
