/- the document's Make. -/
import Derived.Test.YtibmfjacfbpfgaaGreatDoorRefD
set_option linter.unusedVariables false
set_option linter.unusedSimpArgs false
namespace Go.Proofs.YtibmfjacfbpfgaaGreatDoor.ROwnMake
open Go.RowKit YtibmfjacfbpfgaaGreatDoorW.PrintWords YtibmfjacfbpfgaaGreatDoorW.PrintLast YtibmfjacfbpfgaaGreatDoorW.PrintMore NameLaw NameWalk NameRef NameUse YtibmfjacfbpfgaaGreatDoor.Item Own NodeRes TreeLaw TreeRef SortIns SortSwap FillLaw DiffLaw RealLaw RealKeep KeepLaw OpLaw OpKeep DkLaw OwnLeaf DSmall DSync RLead RReal RDisk RSum ROwnA
set_option maxHeartbeats 8000000 in
set_option maxRecDepth 100000 in
theorem rown_make (W0 W : World) (b : Nat) (vb vw : Value) (d : Dk) (m : Nat) (hD : Doc W0 W b vb vw d m) (hm : m ≤ 700000) (pa tp : ByteArray) (kd mo ui gi mt at_ : Int) (da : ByteArray) (hp : pa.size ≤ 10000) (htp : tp.size ≤ 10000) (hda : da.size ≤ 100000) (hmo : 0 ≤ mo) :
  Calls Tryz.prog 84 #[.pointer (some ⟨b, 0, none⟩), .agg #[.int .i64 0, .string pa, .string tp, .int .i64 kd, .int .u32 mo, .int .u32 ui, .int .u32 gi, .int .i64 mt, .int .i64 at_, .string da]] W (RPost W0 W b vb vw (ownD nzR d 0 pa tp (kd, mo, ui, gi, mt, at_, da))) := by
 obtain ⟨Aw, cw, rfl⟩ := Kd.R_slice hD.at_.rw
 have hsh := hD.bnd.shows
 have HT := Lib.hid (doc_tree (Trees.shows hD.trees) hsh.1 (by omega) hsh.2)
 have hlen := hsh.1
 have hb1 := below_one W (.cells #[.int .i64 0, .string pa, .string tp, .int .i64 kd, .int .u32 mo, .int .u32 ui, .int .u32 gi, .int .i64 mt, .int .i64 at_, .string da] 91)
 have HD1 := Lib.hid (doc_below hD hb1)
 have HB1 := Lib.hid hb1
 have HK1 := Lib.hid (heap_new W (.cells #[.int .i64 0, .string pa, .string tp, .int .i64 kd, .int .u32 mo, .int .u32 ui, .int .u32 gi, .int .i64 mt, .int .i64 at_, .string da] 91))
 have HSH := Lib.hid (rshows_any W0 (W.alloc (.cells #[.int .i64 0, .string pa, .string tp, .int .i64 kd, .int .u32 mo, .int .u32 ui, .int .u32 gi, .int .i64 mt, .int .i64 at_, .string da] 91)) b vb (.slice Aw d.waits.length cw) d m HD1.out (by omega))
 clear hb1 hD hsh
 go_enter Tryz.func84, Tryz.ntmps84
 go_wp2_with fail
 generalize W.alloc (.cells #[.int .i64 0, .string pa, .string tp, .int .i64 kd, .int .u32 mo, .int .u32 ui, .int .u32 gi, .int .i64 mt, .int .i64 at_, .string da] 91) = W1 at *
 obtain ⟨bc, hbc⟩ : ∃ bc, bc = W.heap.size := ⟨_, rfl⟩
 rw [← hbc] at HK1 ⊢
 have hbc2 : W.heap.size ≤ bc := by omega
 clear hbc
 refine HSH.out.mono ?_
 rintro e w2 ⟨v2, rfl, hr2, hb2⟩
 obtain ⟨A, c, hv⟩ := Kd.R_slice hr2
 subst hv
 have HC := Lib.hid (Kd.R_reads' hr2).2.2
 have HB2 := Lib.hid (below_next HB1.out hb2)
 have HK2 := Lib.hid ((hb2.block bc (Array.getElem?_eq_some_iff.1 HK1.out).1).trans HK1.out)
 have HD2 := Lib.hid (doc_below HD1.out hb2)
 have HR2 := Lib.hid (Kd.R_lower hr2 HB1.out.size)
 clear hr2 hb2 HSH HD1 HB1 HK1
 obtain ⟨k0, k1, k2, k3, k4, k5, k6, k7, k8, k9⟩ := Own.cs10 HK2.out
 have HRL := Lib.hid (rreal_any d.shows HT.out w2 A c HC.out pa (by omega))
 obtain ⟨R, hR⟩ : ∃ R, R = realP d.shows pa := ⟨_, rfl⟩
 rw [← hR] at HRL
 have HR := Lib.hid hR
 clear hR
 obtain ⟨p, ee⟩ := R
 simp only at HRL
 go_wp2_with fail
 refine HRL.out.mono ?_
 rintro e w3 ⟨rfl, hb3⟩
 have HB3 := Lib.hid (below_next HB2.out hb3)
 have HK3 := Lib.hid ((hb3.block bc (Array.getElem?_eq_some_iff.1 HK2.out).1).trans HK2.out)
 have HD3 := Lib.hid (doc_below HD2.out hb3)
 have HC3 := Lib.hid (Kd.C_below HC.out hb3)
 clear hb3 HRL HK2 HC HB2 HD2 HR2 k0 k1 k2 k3 k4 k5 k6 k7 k8 k9
 obtain ⟨k0, k1, k2, k3, k4, k5, k6, k7, k8, k9⟩ := Own.cs10 HK3.out
 by_cases he : ee = 0
 ·
  subst he
  have HE := Lib.hid (show (realP d.shows pa).2 = 0 by rw [← HR.out])
  have HP := Lib.hid (show (realP d.shows pa).1 = p by rw [← HR.out])
  have HKD := Lib.hid (rkind_any d.shows A c p w3 HC3.out)
  have hps : p.size ≤ 9000 := by have := real_tiny (Trees.shows HD3.out.trees) HE.out; rw [HP.out] at this; exact this
  obtain ⟨kk, hkk⟩ : ∃ kk, kk = kindOf d.shows p := ⟨_, rfl⟩
  rw [← hkk] at HKD
  have HKK := Lib.hid (show kindOf d.shows (realP d.shows pa).1 = kk by rw [HP.out]; exact hkk.symm)
  clear hkk
  go_wp2_with fail
  refine HKD.out.mono ?_
  rintro e w4 ⟨rfl, hb4⟩
  have HB4 := Lib.hid (below_next HB3.out hb4)
  have HK4 := Lib.hid ((hb4.block bc (Array.getElem?_eq_some_iff.1 HK3.out).1).trans HK3.out)
  have HD4 := Lib.hid (doc_below HD3.out hb4)
  have HC4 := Lib.hid (Kd.C_below HC3.out hb4)
  clear hb4 HKD HK3 HC3 HB3 HD3 k0 k1 k2 k3 k4 k5 k6 k7 k8 k9
  obtain ⟨k0, k1, k2, k3, k4, k5, k6, k7, k8, k9⟩ := Own.cs10 HK4.out
  have hb5 := below_one w4 (.cells #[.int .i64 kd, .int .u32 (mo % 4096), .int .u32 ui, .int .u32 gi, .int .i64 mt, .int .i64 at_, .string da] 34)
  have hb6 := below_one (w4.alloc (.cells #[.int .i64 kd, .int .u32 (mo % 4096), .int .u32 ui, .int .u32 gi, .int .i64 mt, .int .i64 at_, .string da] 34)) (.cells #[.int .i64 0, .string p, .string ⟨#[]⟩, .int .i64 kd, .int .u32 (mo % 4096), .int .u32 ui, .int .u32 gi, .int .i64 mt, .int .i64 at_, .string da, .bool false] 121)
  have HN5 := Lib.hid (heap_new w4 (.cells #[.int .i64 kd, .int .u32 (mo % 4096), .int .u32 ui, .int .u32 gi, .int .i64 mt, .int .i64 at_, .string da] 34))
  have HK5 := Lib.hid ((hb5.block bc (Array.getElem?_eq_some_iff.1 HK4.out).1).trans HK4.out)
  have HSZ5 : (w4.alloc (.cells #[.int .i64 kd, .int .u32 (mo % 4096), .int .u32 ui, .int .u32 gi, .int .i64 mt, .int .i64 at_, .string da] 34)).heap.size = w4.heap.size + 1 := Array.size_push _
  have HX6 := Lib.hid (heap_new (w4.alloc (.cells #[.int .i64 kd, .int .u32 (mo % 4096), .int .u32 ui, .int .u32 gi, .int .i64 mt, .int .i64 at_, .string da] 34)) (.cells #[.int .i64 0, .string p, .string ⟨#[]⟩, .int .i64 kd, .int .u32 (mo % 4096), .int .u32 ui, .int .u32 gi, .int .i64 mt, .int .i64 at_, .string da, .bool false] 121))
  rw [HSZ5] at HX6
  have HN6 := Lib.hid ((hb6.block w4.heap.size (Array.getElem?_eq_some_iff.1 HN5.out).1).trans HN5.out)
  have HK6 := Lib.hid ((hb6.block bc (Array.getElem?_eq_some_iff.1 HK5.out).1).trans HK5.out)
  have HB5 := Lib.hid (below_next HB4.out hb5)
  have HB6 := Lib.hid (below_next HB5.out hb6)
  have HD6 := Lib.hid (doc_below (doc_below HD4.out hb5) hb6)
  have HC6 := Lib.hid (Kd.C_below (Kd.C_below HC4.out hb5) hb6)
  have HQB : Hid (∀ k, ROwns b vb (.slice Aw d.waits.length cw) k → k ≠ w4.heap.size + 1) := Lib.hid (fun k hk => Nat.ne_of_lt (Nat.lt_succ_of_lt (rowns_lt HD4.out.at_ k hk)))
  have HNX := Lib.hid (show w4.heap.size ≠ w4.heap.size + 1 by omega)
  clear HSZ5
  have z1 := frozen_of HN5.out 1
  clear hb5 hb6 HB4 HD4 HC4
  have a0 : (w4.alloc (.cells #[.int .i64 kd, .int .u32 (mo % 4096), .int .u32 ui, .int .u32 gi, .int .i64 mt, .int .i64 at_, .string da] 34)).cell? ⟨bc, 0, none⟩ = some (.int .i64 0) := by rw [cell_of HK5.out]; rfl
  obtain ⟨n0, n1, n2, n3, n4, n5, n6⟩ := Own.cs7 HN5.out
  have b0 : ((w4.alloc (.cells #[.int .i64 kd, .int .u32 (mo % 4096), .int .u32 ui, .int .u32 gi, .int .i64 mt, .int .i64 at_, .string da] 34)).alloc (.cells #[.int .i64 0, .string p, .string ⟨#[]⟩, .int .i64 kd, .int .u32 (mo % 4096), .int .u32 ui, .int .u32 gi, .int .i64 mt, .int .i64 at_, .string da, .bool false] 121)).cell? ⟨bc, 0, none⟩ = some (.int .i64 0) := by rw [cell_of HK6.out]; rfl
  have b1 : ((w4.alloc (.cells #[.int .i64 kd, .int .u32 (mo % 4096), .int .u32 ui, .int .u32 gi, .int .i64 mt, .int .i64 at_, .string da] 34)).alloc (.cells #[.int .i64 0, .string p, .string ⟨#[]⟩, .int .i64 kd, .int .u32 (mo % 4096), .int .u32 ui, .int .u32 gi, .int .i64 mt, .int .i64 at_, .string da, .bool false] 121)).cell? ⟨bc, 1, none⟩ = some (.string pa) := by rw [cell_of HK6.out]; rfl
  have b2 : ((w4.alloc (.cells #[.int .i64 kd, .int .u32 (mo % 4096), .int .u32 ui, .int .u32 gi, .int .i64 mt, .int .i64 at_, .string da] 34)).alloc (.cells #[.int .i64 0, .string p, .string ⟨#[]⟩, .int .i64 kd, .int .u32 (mo % 4096), .int .u32 ui, .int .u32 gi, .int .i64 mt, .int .i64 at_, .string da, .bool false] 121)).cell? ⟨bc, 2, none⟩ = some (.string tp) := by rw [cell_of HK6.out]; rfl
  have o0 : ((w4.alloc (.cells #[.int .i64 kd, .int .u32 (mo % 4096), .int .u32 ui, .int .u32 gi, .int .i64 mt, .int .i64 at_, .string da] 34)).alloc (.cells #[.int .i64 0, .string p, .string ⟨#[]⟩, .int .i64 kd, .int .u32 (mo % 4096), .int .u32 ui, .int .u32 gi, .int .i64 mt, .int .i64 at_, .string da, .bool false] 121)).cell? ⟨w4.heap.size, 0, none⟩ = some (.int .i64 kd) := by rw [cell_of HN6.out]; rfl
  have o6 : ((w4.alloc (.cells #[.int .i64 kd, .int .u32 (mo % 4096), .int .u32 ui, .int .u32 gi, .int .i64 mt, .int .i64 at_, .string da] 34)).alloc (.cells #[.int .i64 0, .string p, .string ⟨#[]⟩, .int .i64 kd, .int .u32 (mo % 4096), .int .u32 ui, .int .u32 gi, .int .i64 mt, .int .i64 at_, .string da, .bool false] 121)).cell? ⟨w4.heap.size, 6, none⟩ = some (.string da) := by rw [cell_of HN6.out]; rfl
  have c2 : ((w4.alloc (.cells #[.int .i64 kd, .int .u32 (mo % 4096), .int .u32 ui, .int .u32 gi, .int .i64 mt, .int .i64 at_, .string da] 34)).alloc (.cells #[.int .i64 0, .string p, .string ⟨#[]⟩, .int .i64 kd, .int .u32 (mo % 4096), .int .u32 ui, .int .u32 gi, .int .i64 mt, .int .i64 at_, .string da, .bool false] 121)).cell? ⟨(w4.heap.size + 1), 2, none⟩ = some (.string ⟨#[]⟩) := by rw [cell_of HX6.out]; rfl
  by_cases k1 : kd < 1
  ·
   have HL := Lib.hid (make_kind nzR d pa tp (kd, mo, ui, gi, mt, at_, da) HE.out (show kd < 1 ∨ 3 < kd ∨ (kd = 1 ∧ 0 < da.size) by omega))
   go_wp2
   go_ret
   rw [HL.out]
   exact rpost_same HD6.out HB6.out
  by_cases k2 : 3 < kd
  ·
   have HL := Lib.hid (make_kind nzR d pa tp (kd, mo, ui, gi, mt, at_, da) HE.out (show kd < 1 ∨ 3 < kd ∨ (kd = 1 ∧ 0 < da.size) by omega))
   go_wp2
   go_ret
   rw [HL.out]
   exact rpost_same HD6.out HB6.out
  by_cases kb : kd = 1 ∧ 0 < da.size
  ·
   obtain ⟨k3, k5⟩ := kb
   have k4 : (kd == 1) = true := by rw [k3]; rfl
   have HKI := Lib.hid k3
   clear k3
   have k6 : (0 : Int) < (da.size : Int) := by omega
   have HL := Lib.hid (make_kind nzR d pa tp (kd, mo, ui, gi, mt, at_, da) HE.out (show kd < 1 ∨ 3 < kd ∨ (kd = 1 ∧ 0 < da.size) by have := HKI.out; omega))
   go_wp2
   go_ret
   rw [HL.out]
   exact rpost_same HD6.out HB6.out
  have hk4 : ((kd == 1) = true ∧ ¬ (0 : Int) < (da.size : Int)) ∨ (kd == 1) = false := by
   by_cases k3 : kd = 1
   ·
    exact .inl ⟨by rw [k3]; rfl, by omega⟩
   exact .inr (beq_eq_false_iff_ne.2 k3)
  have HKB := Lib.hid kb
  clear kb
  rcases hk4 with ⟨k4, k6⟩ | k4 <;> (
  by_cases hkk : kk = 0
  ·
   subst hkk
   have HSU := Lib.hid (fun w h => rsum_any d.shows A c p da.size w h (by omega) (fun x hx => Nat.le_trans (HT.out.data x hx) (by decide)) (by omega) (by omega))
   obtain ⟨M, hM⟩ : ∃ M : Int, M = (da.size : Int) + (sumO d.shows p : Int) := ⟨_, rfl⟩
   rw [← hM] at HSU
   have HM := Lib.hid hM
   clear hM
   go_wp2
   generalize ((w4.alloc (.cells #[.int .i64 kd, .int .u32 (mo % 4096), .int .u32 ui, .int .u32 gi, .int .i64 mt, .int .i64 at_, .string da] 34)).alloc (.cells #[.int .i64 0, .string p, .string ⟨#[]⟩, .int .i64 kd, .int .u32 (mo % 4096), .int .u32 ui, .int .u32 gi, .int .i64 mt, .int .i64 at_, .string da, .bool false] 121)) = W6 at *
   generalize w4.heap.size + 1 = bch at *
   generalize w4.heap.size = bn at *
   have HB6d : Hid (Below W.heap.size W W6.drew) := Lib.hid (below_drew HB6.out)
   have HD6d : Hid (Doc W0 W6.drew b vb (.slice Aw d.waits.length cw) d m) := Lib.hid (doc_below HD6.out (below_drew (Below.refl _ _)))
   have HC6d : Hid (ItemC W6.drew A d.shows) := Lib.hid HC6.out
   have HX6d : Hid (W6.drew.heap[bch]? = some (.cells #[.int .i64 0, .string p, .string ⟨#[]⟩, .int .i64 kd, .int .u32 (mo % 4096), .int .u32 ui, .int .u32 gi, .int .i64 mt, .int .i64 at_, .string da, .bool false] 121 (0, 0))) := Lib.hid HX6.out
   have s0 : W6.drew.cell? ⟨bn, 6, none⟩ = some (.string da) := o6
   have s1 := HD6d.out.at_.c2
   refine start_ (n := 11) (S := fun w' => w'.cell? ⟨bn, 6, none⟩ = some (.string da) ∧ w'.cell? ⟨b, 2, none⟩ = some (.int .i64 d.limit)) (ds := []) (Own.bm 11 0) (by kernel_rfl) rfl rfl ⟨s0, s1⟩ (fun hHeld => ?_)
   generalize W6.drew = W6d at *
   refine pure_ (i := 0) (N := some 77) (v := ?_) (a' := ?_) (Own.bm 11 1) rfl rfl (by kernel_rfl) (fun _ _ _ h => h) (Or.inl ⟨by rfl, ?_⟩) ?_ ?_
   rotate_left;intro w';go_simp;with_reducible rfl;rotate_left;simp only [Act.put, Own.na, Own.nz, Own.ns, i64_w, i32_w];rfl
   refine pure_ (i := 1) (N := some 78) (v := ?_) (a' := ?_) (Own.bm 11 3) rfl rfl (by kernel_rfl) (fun _ _ _ h => h) (Or.inl ⟨by rfl, ?_⟩) ?_ ?_
   rotate_left;intro w';go_simp;with_reducible rfl;rotate_left;simp only [Act.put, Own.na, Own.nz, Own.ns, i64_w, i32_w];rfl
   refine pure_ (i := 2) (N := some 79) (v := ?_) (a' := ?_) (Own.bm 11 7) rfl rfl (by kernel_rfl) (fun _ _ _ h => h) (Or.inl ⟨by rfl, ?_⟩) ?_ ?_
   rotate_left;intro w';go_simp;with_reducible rfl;rotate_left;simp only [Act.put, Own.na, Own.nz, Own.ns, i64_w, i32_w];rfl
   refine pure_ (i := 6) (N := some 83) (v := ?_) (a' := ?_) (Own.bm 11 71) rfl rfl (by kernel_rfl) (fun _ _ _ h => h) (Or.inl ⟨by rfl, ?_⟩) ?_ ?_
   rotate_left;intro w';go_simp;with_reducible rfl;rotate_left;simp only [Act.put, Own.na, Own.nz, Own.ns, i64_w, i32_w];rfl
   refine pure_ (i := 7) (N := some 84) (v := ?_) (a' := ?_) (Own.bm 11 199) rfl rfl (by kernel_rfl) (fun _ _ _ h => h) (Or.inl ⟨by rfl, ?_⟩) ?_ ?_
   rotate_left;intro w';go_simp;with_reducible rfl;rotate_left;simp only [Act.put, Own.na, Own.nz, Own.ns, i64_w, i32_w];rfl
   refine pure_ (i := 8) (N := some 85) (v := ?_) (a' := ?_) (Own.bm 11 455) rfl rfl (by kernel_rfl) (fun _ _ _ h => h) (Or.inl ⟨by rfl, ?_⟩) ?_ ?_
   rotate_left;intro w';go_simp;with_reducible rfl;rotate_left;simp only [Act.put, Own.na, Own.nz, Own.ns, i64_w, i32_w];rfl
   refine take_ (i := 3) (N := some 80) (v := ?_) (a' := ?_) (Own.bm 11 463) rfl rfl (by kernel_rfl) (fun _ _ _ h => h) (Or.inl ⟨by rfl, ?_⟩) hHeld ?_ ?_
   rotate_left;rintro w' ⟨s0, s1⟩;go_simp;with_reducible rfl;rotate_left;simp only [Act.put, Own.na, Own.nz, Own.ns, i64_w, i32_w];rfl
   refine pure_ (i := 4) (N := some 81) (v := ?_) (a' := ?_) (Own.bm 11 479) rfl rfl (by kernel_rfl) (fun _ _ _ h => h) (Or.inl ⟨by rfl, ?_⟩) ?_ ?_
   rotate_left;intro w';go_simp;with_reducible rfl;rotate_left;simp only [Act.put, Own.na, Own.nz, Own.ns, i64_w, i32_w];rfl
   refine take_ (i := 9) (N := some 86) (v := ?_) (a' := ?_) (Own.bm 11 991) rfl rfl (by kernel_rfl) (fun _ _ _ h => h) (Or.inl ⟨by rfl, ?_⟩) hHeld ?_ ?_
   rotate_left;rintro w' ⟨s0, s1⟩;go_simp;with_reducible rfl;rotate_left;simp only [Act.put, Own.na, Own.nz, Own.ns, i64_w, i32_w];rfl
   refine one_ (i := 5) (N := some 82) (Own.bm 11 1023) rfl rfl (by kernel_rfl) (by decide) (fun K hK => ?_)
   refine goes_ Tryz.func119 (by kernel_rfl) rfl #[.slice A d.shows.length c, .string p, .int .i64 da.size] (by rfl) rfl rfl (by simp only [List.map_toArray, List.map_cons, List.map_nil]; rfl) ?_
   with_reducible refine (HSU.out W6d HC6d.out).mono ?_
   rintro e w7 ⟨rfl, hb7⟩
   refine ⟨_, rfl, ?_⟩
   have HB7 := Lib.hid (below_next HB6d.out hb7)
   have HD7 := Lib.hid (doc_below HD6d.out hb7)
   have HX7 := Lib.hid ((hb7.block bch (Array.getElem?_eq_some_iff.1 HX6d.out).1).trans HX6d.out)
   have t0 := pw_cell_below hb7 s0
   have t1 := pw_cell_below hb7 s1
   clear hb7
   refine hK.out _ _ ⟨t0, t1⟩ (fun hHeld => ?_)
   clear hK K
   refine norm_ (a' := ?_) ?_ ?_
   rotate_left
   ·
    show Act.put _ (some 82) _ = _
    simp only [Act.put, Own.na, Own.nz, Own.ns, i64_w, i32_w]
    rfl
   refine pure_ (i := 10) (N := some 87) (v := ?_) (a' := ?_) (Own.bm 11 2047) rfl rfl (by kernel_rfl) (fun _ _ _ h => h) (Or.inl ⟨by rfl, ?_⟩) ?_ ?_
   rotate_left;intro w';go_simp;with_reducible rfl;rotate_left;simp only [Act.put, Own.na, Own.nz, Own.ns, i64_w, i32_w];rfl
   refine done_ (by kernel_rfl) ?_
   clear s0 s1 t0 t1 HB6d HD6d HC6d HX6d HSU
   by_cases hf : d.limit < M
   ·
    have hf1 : decide (d.limit < M) = true := decide_eq_true hf
    have HL := Lib.hid (make_full nzR d pa tp (kd, mo, ui, gi, mt, at_, da) HE.out (show ¬ (kd < 1 ∨ 3 < kd ∨ (kd = 1 ∧ 0 < da.size)) by have := HKB.out; omega) HKK.out (show d.limit < (da.size : Int) + (sumO d.shows (realP d.shows pa).1 : Int) by rw [HP.out]; have := HM.out; omega))
    go_wp2
    go_ret
    rw [HL.out]
    exact rpost_same HD7.out HB7.out
   have hf1 : decide (d.limit < M) = false := decide_eq_false hf
   have HL := Lib.hid (make_ok nzR d pa tp (kd, mo, ui, gi, mt, at_, da) HE.out (show ¬ (kd < 1 ∨ 3 < kd ∨ (kd = 1 ∧ 0 < da.size)) by have := HKB.out; omega) HKK.out (show ¬ d.limit < (da.size : Int) + (sumO d.shows (realP d.shows pa).1 : Int) by rw [HP.out]; have := HM.out; omega))
   go_wp2
   have HD9 : Hid (Doc W0 w7.drew b vb (.slice Aw d.waits.length cw) d m) := Lib.hid (doc_below HD7.out (below_drew (Below.refl _ _)))
   have HB9 : Hid (Below W.heap.size W w7.drew) := Lib.hid (below_drew HB7.out)
   have HX9 : Hid (w7.drew.heap[bch]? = some (.cells #[.int .i64 0, .string p, .string ⟨#[]⟩, .int .i64 kd, .int .u32 (mo % 4096), .int .u32 ui, .int .u32 gi, .int .i64 mt, .int .i64 at_, .string da, .bool false] 121 (0, 0))) := Lib.hid HX7.out
   have r0 := HD9.out.at_.c1
   obtain ⟨r1, r2, r3, r4, r5, r6, r7, r8, r9, r10, r11⟩ := Own.cs11 HX9.out
   refine start_ (n := 11) (S := fun w' => w'.cell? ⟨b, 1, none⟩ = some (.slice Aw d.waits.length cw) ∧ w'.cell? ⟨bch, 0, none⟩ = some (.int .i64 0) ∧ w'.cell? ⟨bch, 1, none⟩ = some (.string p) ∧ w'.cell? ⟨bch, 2, none⟩ = some (.string ⟨#[]⟩) ∧ w'.cell? ⟨bch, 3, none⟩ = some (.int .i64 kd) ∧ w'.cell? ⟨bch, 4, none⟩ = some (.int .u32 (mo % 4096)) ∧ w'.cell? ⟨bch, 5, none⟩ = some (.int .u32 ui) ∧ w'.cell? ⟨bch, 6, none⟩ = some (.int .u32 gi) ∧ w'.cell? ⟨bch, 7, none⟩ = some (.int .i64 mt) ∧ w'.cell? ⟨bch, 8, none⟩ = some (.int .i64 at_) ∧ w'.cell? ⟨bch, 9, none⟩ = some (.string da) ∧ w'.cell? ⟨bch, 10, none⟩ = some (.bool false)) (ds := [10]) (Own.bm 11 0) (by kernel_rfl) rfl rfl ⟨r0, r1, r2, r3, r4, r5, r6, r7, r8, r9, r10, r11⟩ (fun hHeld => ?_)
   generalize w7.drew = W9 at *
   refine pure_ (i := 0) (N := some 190) (v := ?_) (a' := ?_) (Own.bm 11 1) rfl rfl (by kernel_rfl) (fun _ _ _ h => h) (Or.inl ⟨by rfl, ?_⟩) ?_ ?_
   rotate_left;intro w';go_simp;with_reducible rfl;rotate_left;simp only [Act.put, Own.na, Own.nz, Own.ns, i64_w, i32_w];rfl
   refine pure_ (i := 1) (N := some 191) (v := ?_) (a' := ?_) (Own.bm 11 3) rfl rfl (by kernel_rfl) (fun _ _ _ h => h) (Or.inl ⟨by rfl, ?_⟩) ?_ ?_
   rotate_left;intro w';go_simp;with_reducible rfl;rotate_left;simp only [Act.put, Own.na, Own.nz, Own.ns, i64_w, i32_w];rfl
   refine pure_ (i := 2) (N := some 192) (v := ?_) (a' := ?_) (Own.bm 11 7) rfl rfl (by kernel_rfl) (fun _ _ _ h => h) (Or.inl ⟨by rfl, ?_⟩) ?_ ?_
   rotate_left;intro w';go_simp;with_reducible rfl;rotate_left;simp only [Act.put, Own.na, Own.nz, Own.ns, i64_w, i32_w];rfl
   refine pure_ (i := 3) (N := some 193) (v := ?_) (a' := ?_) (Own.bm 11 15) rfl rfl (by kernel_rfl) (fun _ _ _ h => h) (Or.inl ⟨by rfl, ?_⟩) ?_ ?_
   rotate_left;intro w';go_simp;with_reducible rfl;rotate_left;simp only [Act.put, Own.na, Own.nz, Own.ns, i64_w, i32_w];rfl
   refine take_ (i := 4) (N := some 194) (v := ?_) (a' := ?_) (Own.bm 11 31) rfl rfl (by kernel_rfl) (fun _ _ _ h => h) (Or.inl ⟨by rfl, ?_⟩) hHeld ?_ ?_
   rotate_left;rintro w' ⟨s0, s1, s2, s3, s4, s5, s6, s7, s8, s9, s10, s11⟩;go_simp;with_reducible rfl;rotate_left;simp only [Act.put, Own.na, Own.nz, Own.ns, i64_w, i32_w];rfl
   refine take_ (i := 5) (N := some 195) (v := ?_) (a' := ?_) (Own.bm 11 63) rfl rfl (by kernel_rfl) (fun _ _ _ h => h) (Or.inl ⟨by rfl, ?_⟩) hHeld ?_ ?_
   rotate_left;rintro w' ⟨s0, s1, s2, s3, s4, s5, s6, s7, s8, s9, s10, s11⟩;go_simp;with_reducible rfl;rotate_left;simp only [Act.put, Own.na, Own.nz, Own.ns, i64_w, i32_w];rfl
   refine one_ (i := 6) (N := some 196) (Own.bm 11 127) rfl rfl (by kernel_rfl) (by decide) (fun K hK => ?_)
   refine value_ (w1 := ?_) (v := ?_) (by rfl) rfl ?_ ?_
   rotate_left 2
   ·
    go_simp
    constructor
    ·
     rfl
    rfl
   refine hK.out _ _ ⟨pw_cell_below (below_one _ _) r0, pw_cell_below (below_one _ _) r1, pw_cell_below (below_one _ _) r2, pw_cell_below (below_one _ _) r3, pw_cell_below (below_one _ _) r4, pw_cell_below (below_one _ _) r5, pw_cell_below (below_one _ _) r6, pw_cell_below (below_one _ _) r7, pw_cell_below (below_one _ _) r8, pw_cell_below (below_one _ _) r9, pw_cell_below (below_one _ _) r10, pw_cell_below (below_one _ _) r11⟩ (fun hHeld => ?_)
   clear hK K
   refine norm_ (a' := ?_) ?_ ?_
   rotate_left
   ·
    show Act.put _ (some 196) _ = _
    simp only [Act.put, Own.na, Own.nz, Own.ns, i64_w, i32_w]
    rfl
   refine one_ (i := 7) (N := some 197) (Own.bm 11 255) rfl rfl (by kernel_rfl) (by decide) (fun K hK => ?_)
   refine Kd.R_append_step chK (w0 := W9) W0.heap.size (by rfl) (.tmp 194) (.tmp 196) 85 121 (.agg #[.int .i64 0, .string ByteArray.empty, .string ByteArray.empty, .int .i64 0, .int .u32 0, .int .u32 0, .int .u32 0, .int .i64 0, .int .i64 0, .string ByteArray.empty, .bool false]) 104 rfl Tryz.underlying85 infoRCh rfl (by decide) (by decide) _ d.waits (0, p, ⟨#[]⟩, (kd, masked mo, ui, gi, mt, at_, da), false) [.int .i64 0, .string p, .string ⟨#[]⟩, .int .i64 kd, .int .u32 (mo % 4096), .int .u32 ui, .int .u32 gi, .int .i64 mt, .int .i64 at_, .string da, .bool false] (fun _ => True) (fun _ => False) rfl rfl ?aP (fun _ hk => hk.elim) ?aF ?aO ?aB ?aS ?aL ?_
   (case aP => exact chK_M _ _ _ _ _ _ _ _ _ _ _ _ _ _)
   (case aB => exact Below.refl _ _)
   (case aF => exact (fun _ _ => trivial))
   (case aO => exact HD9.out.at_.rw)
   (case aS => exact HD9.out.low.size)
   (case aL => have := HD9.out.bnd.len; omega)
   intro v1 w10 ho hb8 hg8 hat8
   obtain ⟨A2, c2, hv2⟩ := Kd.R_slice ho
   generalize (d.waits ++ ([(0, p, ⟨#[]⟩, (kd, masked mo, ui, gi, mt, at_, da), false)] : List Chg)).length = N at hv2
   subst hv2
   have HO10 := Lib.hid ho
   have HG10 := Lib.hid hg8
   have HA10 := Lib.hid hat8
   have q0 := cell_grown hg8 r0 (Kd.R_ne HD9.out.at_.rw HD9.out.at_.blk (by decide))
   have q1 := cell_grown hg8 r1 (fun e => HQB.out bch (.inr (.inr e.symm)) rfl)
   have q2 := cell_grown hg8 r2 (fun e => HQB.out bch (.inr (.inr e.symm)) rfl)
   have q3 := cell_grown hg8 r3 (fun e => HQB.out bch (.inr (.inr e.symm)) rfl)
   have q4 := cell_grown hg8 r4 (fun e => HQB.out bch (.inr (.inr e.symm)) rfl)
   have q5 := cell_grown hg8 r5 (fun e => HQB.out bch (.inr (.inr e.symm)) rfl)
   have q6 := cell_grown hg8 r6 (fun e => HQB.out bch (.inr (.inr e.symm)) rfl)
   have q7 := cell_grown hg8 r7 (fun e => HQB.out bch (.inr (.inr e.symm)) rfl)
   have q8 := cell_grown hg8 r8 (fun e => HQB.out bch (.inr (.inr e.symm)) rfl)
   have q9 := cell_grown hg8 r9 (fun e => HQB.out bch (.inr (.inr e.symm)) rfl)
   have q10 := cell_grown hg8 r10 (fun e => HQB.out bch (.inr (.inr e.symm)) rfl)
   have q11 := cell_grown hg8 r11 (fun e => HQB.out bch (.inr (.inr e.symm)) rfl)
   have z8 : w10.frozen? ⟨b, 1, none⟩ = false := frozen_of ((hg8.block b HD9.out.at_.lt (Kd.R_ne HD9.out.at_.rw HD9.out.at_.blk (by decide))).trans HD9.out.at_.blk) 1
   clear ho hb8 hg8 hat8
   refine hK.out _ _ ⟨q0, q1, q2, q3, q4, q5, q6, q7, q8, q9, q10, q11⟩ (fun hHeld => ?_)
   clear hK K
   refine norm_ (a' := ?_) ?_ ?_
   rotate_left
   ·
    show Act.put _ (some 197) _ = _
    simp only [Act.put, Own.na, Own.nz, Own.ns, i64_w, i32_w]
    rfl
   refine pure_ (i := 8) (N := some 198) (v := ?_) (a' := ?_) (Own.bm 11 511) rfl rfl (by kernel_rfl) (fun _ _ _ h => h) (Or.inl ⟨by rfl, ?_⟩) ?_ ?_
   rotate_left;intro w';go_simp;with_reducible rfl;rotate_left;simp only [Act.put, Own.na, Own.nz, Own.ns, i64_w, i32_w];rfl
   refine pure_ (i := 9) (N := some 199) (v := ?_) (a' := ?_) (Own.bm 11 1023) rfl rfl (by kernel_rfl) (fun _ _ _ h => h) (Or.inl ⟨by rfl, ?_⟩) ?_ ?_
   rotate_left;intro w';go_simp;with_reducible rfl;rotate_left;simp only [Act.put, Own.na, Own.nz, Own.ns, i64_w, i32_w];rfl
   refine last_ (i := 10) (N := none) (Own.bm 11 2047) rfl rfl (by kernel_rfl) (by decide) (fun K hK => ?_)
   refine skip_ (w1 := ?_) (by rfl) rfl ?_ ?_
   rotate_left
   ·
    go_simp
    rfl
   refine hK.out _ _ ?_
   clear hK K
   refine done_ (by kernel_rfl) ?_
   have HA11 := Lib.hid (rwaits HD9.out.at_ HO10.out HG10.out)
   have HS11 := Lib.hid ((Still.below HB9.out (ROwns b vb (.slice Aw d.waits.length cw))).trans (still_rwaits (v1 := .slice A2 N c2) b vb HG10.out HA10.out (.slice A2 N c2)))
   clear HO10 HG10 HA10 z8 HX9 HB9 r0 r1 r2 r3 r4 r5 r6 r7 r8 r9 r10 r11 q0 q1 q2 q3 q4 q5 q6 q7 q8 q9 q10 q11
   go_wp2
   go_ret
   rw [HL.out, HP.out]
   exact ⟨rfl, vb, _, HA11.out, HS11.out⟩
  have q0 : (kk == 0) = false := beq_eq_false_iff_ne.2 hkk
  have q1 : (kk != 0) = true := bne_iff_ne.2 hkk
  have HL := Lib.hid (make_there nzR d pa tp (kd, mo, ui, gi, mt, at_, da) HE.out (show ¬ (kd < 1 ∨ 3 < kd ∨ (kd = 1 ∧ 0 < da.size)) by have := HKB.out; omega) (by rw [HKK.out]; exact hkk))
  go_wp2
  go_ret
  rw [HL.out]
  exact rpost_same HD6.out HB6.out)
 have v0 : (ee == 0) = false := beq_eq_false_iff_ne.2 he
 have v1 : (ee != 0) = true := bne_iff_ne.2 he
 have HL := Lib.hid (own_real nzR d 0 pa tp (kd, mo, ui, gi, mt, at_, da) (by decide) (by rw [← HR.out]; exact he))
 rw [← HR.out] at HL
 clear he
 go_wp2
 go_ret
 rw [HL.out]
 exact rpost_same HD3.out HB3.out
end Go.Proofs.YtibmfjacfbpfgaaGreatDoor.ROwnMake
namespace Go.Proofs.YtibmfjacfbpfgaaGreatDoor.ROwnWrite
open Go.RowKit YtibmfjacfbpfgaaGreatDoorW.PrintWords YtibmfjacfbpfgaaGreatDoorW.PrintLast YtibmfjacfbpfgaaGreatDoorW.PrintMore NameLaw NameWalk NameRef NameUse YtibmfjacfbpfgaaGreatDoor.Item Own NodeRes TreeLaw TreeRef SortIns SortSwap FillLaw DiffLaw RealLaw RealKeep KeepLaw OpLaw OpKeep DkLaw OwnLeaf DSmall DSync RLead RReal RDisk RSum ROwnA
set_option maxHeartbeats 8000000 in
set_option maxRecDepth 100000 in
theorem rown_write (W0 W : World) (b : Nat) (vb vw : Value) (d : Dk) (m : Nat) (hD : Doc W0 W b vb vw d m) (hm : m ≤ 700000) (pa tp : ByteArray) (kd mo ui gi mt at_ : Int) (da : ByteArray) (hp : pa.size ≤ 10000) (htp : tp.size ≤ 10000) (hda : da.size ≤ 100000) (hmo : 0 ≤ mo) :
  Calls Tryz.prog 84 #[.pointer (some ⟨b, 0, none⟩), .agg #[.int .i64 1, .string pa, .string tp, .int .i64 kd, .int .u32 mo, .int .u32 ui, .int .u32 gi, .int .i64 mt, .int .i64 at_, .string da]] W (RPost W0 W b vb vw (ownD nzR d 1 pa tp (kd, mo, ui, gi, mt, at_, da))) := by
 obtain ⟨Aw, cw, rfl⟩ := Kd.R_slice hD.at_.rw
 have hsh := hD.bnd.shows
 have HT := Lib.hid (doc_tree (Trees.shows hD.trees) hsh.1 (by omega) hsh.2)
 have hlen := hsh.1
 have hb1 := below_one W (.cells #[.int .i64 1, .string pa, .string tp, .int .i64 kd, .int .u32 mo, .int .u32 ui, .int .u32 gi, .int .i64 mt, .int .i64 at_, .string da] 91)
 have HD1 := Lib.hid (doc_below hD hb1)
 have HB1 := Lib.hid hb1
 have HK1 := Lib.hid (heap_new W (.cells #[.int .i64 1, .string pa, .string tp, .int .i64 kd, .int .u32 mo, .int .u32 ui, .int .u32 gi, .int .i64 mt, .int .i64 at_, .string da] 91))
 have HSH := Lib.hid (rshows_any W0 (W.alloc (.cells #[.int .i64 1, .string pa, .string tp, .int .i64 kd, .int .u32 mo, .int .u32 ui, .int .u32 gi, .int .i64 mt, .int .i64 at_, .string da] 91)) b vb (.slice Aw d.waits.length cw) d m HD1.out (by omega))
 clear hb1 hD hsh
 go_enter Tryz.func84, Tryz.ntmps84
 go_wp2_with fail
 generalize W.alloc (.cells #[.int .i64 1, .string pa, .string tp, .int .i64 kd, .int .u32 mo, .int .u32 ui, .int .u32 gi, .int .i64 mt, .int .i64 at_, .string da] 91) = W1 at *
 obtain ⟨bc, hbc⟩ : ∃ bc, bc = W.heap.size := ⟨_, rfl⟩
 rw [← hbc] at HK1 ⊢
 have hbc2 : W.heap.size ≤ bc := by omega
 clear hbc
 refine HSH.out.mono ?_
 rintro e w2 ⟨v2, rfl, hr2, hb2⟩
 obtain ⟨A, c, hv⟩ := Kd.R_slice hr2
 subst hv
 have HC := Lib.hid (Kd.R_reads' hr2).2.2
 have HB2 := Lib.hid (below_next HB1.out hb2)
 have HK2 := Lib.hid ((hb2.block bc (Array.getElem?_eq_some_iff.1 HK1.out).1).trans HK1.out)
 have HD2 := Lib.hid (doc_below HD1.out hb2)
 have HR2 := Lib.hid (Kd.R_lower hr2 HB1.out.size)
 clear hr2 hb2 HSH HD1 HB1 HK1
 obtain ⟨k0, k1, k2, k3, k4, k5, k6, k7, k8, k9⟩ := Own.cs10 HK2.out
 have HRL := Lib.hid (rreal_any d.shows HT.out w2 A c HC.out pa (by omega))
 obtain ⟨R, hR⟩ : ∃ R, R = realP d.shows pa := ⟨_, rfl⟩
 rw [← hR] at HRL
 have HR := Lib.hid hR
 clear hR
 obtain ⟨p, ee⟩ := R
 simp only at HRL
 go_wp2_with fail
 refine HRL.out.mono ?_
 rintro e w3 ⟨rfl, hb3⟩
 have HB3 := Lib.hid (below_next HB2.out hb3)
 have HK3 := Lib.hid ((hb3.block bc (Array.getElem?_eq_some_iff.1 HK2.out).1).trans HK2.out)
 have HD3 := Lib.hid (doc_below HD2.out hb3)
 have HC3 := Lib.hid (Kd.C_below HC.out hb3)
 clear hb3 HRL HK2 HC HB2 HD2 HR2 k0 k1 k2 k3 k4 k5 k6 k7 k8 k9
 obtain ⟨k0, k1, k2, k3, k4, k5, k6, k7, k8, k9⟩ := Own.cs10 HK3.out
 by_cases he : ee = 0
 ·
  subst he
  have HE := Lib.hid (show (realP d.shows pa).2 = 0 by rw [← HR.out])
  have HP := Lib.hid (show (realP d.shows pa).1 = p by rw [← HR.out])
  have HKD := Lib.hid (rkind_any d.shows A c p w3 HC3.out)
  have hps : p.size ≤ 9000 := by have := real_tiny (Trees.shows HD3.out.trees) HE.out; rw [HP.out] at this; exact this
  obtain ⟨kk, hkk⟩ : ∃ kk, kk = kindOf d.shows p := ⟨_, rfl⟩
  rw [← hkk] at HKD
  have HKK := Lib.hid (show kindOf d.shows (realP d.shows pa).1 = kk by rw [HP.out]; exact hkk.symm)
  clear hkk
  go_wp2_with fail
  refine HKD.out.mono ?_
  rintro e w4 ⟨rfl, hb4⟩
  have HB4 := Lib.hid (below_next HB3.out hb4)
  have HK4 := Lib.hid ((hb4.block bc (Array.getElem?_eq_some_iff.1 HK3.out).1).trans HK3.out)
  have HD4 := Lib.hid (doc_below HD3.out hb4)
  have HC4 := Lib.hid (Kd.C_below HC3.out hb4)
  clear hb4 HKD HK3 HC3 HB3 HD3 k0 k1 k2 k3 k4 k5 k6 k7 k8 k9
  obtain ⟨k0, k1, k2, k3, k4, k5, k6, k7, k8, k9⟩ := Own.cs10 HK4.out
  have hb5 := below_one w4 (.cells #[.int .i64 kd, .int .u32 (mo % 4096), .int .u32 ui, .int .u32 gi, .int .i64 mt, .int .i64 at_, .string da] 34)
  have hb6 := below_one (w4.alloc (.cells #[.int .i64 kd, .int .u32 (mo % 4096), .int .u32 ui, .int .u32 gi, .int .i64 mt, .int .i64 at_, .string da] 34)) (.cells #[.int .i64 1, .string p, .string ⟨#[]⟩, .int .i64 kd, .int .u32 (mo % 4096), .int .u32 ui, .int .u32 gi, .int .i64 mt, .int .i64 at_, .string da, .bool false] 121)
  have HN5 := Lib.hid (heap_new w4 (.cells #[.int .i64 kd, .int .u32 (mo % 4096), .int .u32 ui, .int .u32 gi, .int .i64 mt, .int .i64 at_, .string da] 34))
  have HK5 := Lib.hid ((hb5.block bc (Array.getElem?_eq_some_iff.1 HK4.out).1).trans HK4.out)
  have HSZ5 : (w4.alloc (.cells #[.int .i64 kd, .int .u32 (mo % 4096), .int .u32 ui, .int .u32 gi, .int .i64 mt, .int .i64 at_, .string da] 34)).heap.size = w4.heap.size + 1 := Array.size_push _
  have HX6 := Lib.hid (heap_new (w4.alloc (.cells #[.int .i64 kd, .int .u32 (mo % 4096), .int .u32 ui, .int .u32 gi, .int .i64 mt, .int .i64 at_, .string da] 34)) (.cells #[.int .i64 1, .string p, .string ⟨#[]⟩, .int .i64 kd, .int .u32 (mo % 4096), .int .u32 ui, .int .u32 gi, .int .i64 mt, .int .i64 at_, .string da, .bool false] 121))
  rw [HSZ5] at HX6
  have HN6 := Lib.hid ((hb6.block w4.heap.size (Array.getElem?_eq_some_iff.1 HN5.out).1).trans HN5.out)
  have HK6 := Lib.hid ((hb6.block bc (Array.getElem?_eq_some_iff.1 HK5.out).1).trans HK5.out)
  have HB5 := Lib.hid (below_next HB4.out hb5)
  have HB6 := Lib.hid (below_next HB5.out hb6)
  have HD6 := Lib.hid (doc_below (doc_below HD4.out hb5) hb6)
  have HC6 := Lib.hid (Kd.C_below (Kd.C_below HC4.out hb5) hb6)
  have HQB : Hid (∀ k, ROwns b vb (.slice Aw d.waits.length cw) k → k ≠ w4.heap.size + 1) := Lib.hid (fun k hk => Nat.ne_of_lt (Nat.lt_succ_of_lt (rowns_lt HD4.out.at_ k hk)))
  have HNX := Lib.hid (show w4.heap.size ≠ w4.heap.size + 1 by omega)
  clear HSZ5
  have z1 := frozen_of HN5.out 1
  clear hb5 hb6 HB4 HD4 HC4
  have a0 : (w4.alloc (.cells #[.int .i64 kd, .int .u32 (mo % 4096), .int .u32 ui, .int .u32 gi, .int .i64 mt, .int .i64 at_, .string da] 34)).cell? ⟨bc, 0, none⟩ = some (.int .i64 1) := by rw [cell_of HK5.out]; rfl
  obtain ⟨n0, n1, n2, n3, n4, n5, n6⟩ := Own.cs7 HN5.out
  have b0 : ((w4.alloc (.cells #[.int .i64 kd, .int .u32 (mo % 4096), .int .u32 ui, .int .u32 gi, .int .i64 mt, .int .i64 at_, .string da] 34)).alloc (.cells #[.int .i64 1, .string p, .string ⟨#[]⟩, .int .i64 kd, .int .u32 (mo % 4096), .int .u32 ui, .int .u32 gi, .int .i64 mt, .int .i64 at_, .string da, .bool false] 121)).cell? ⟨bc, 0, none⟩ = some (.int .i64 1) := by rw [cell_of HK6.out]; rfl
  have b1 : ((w4.alloc (.cells #[.int .i64 kd, .int .u32 (mo % 4096), .int .u32 ui, .int .u32 gi, .int .i64 mt, .int .i64 at_, .string da] 34)).alloc (.cells #[.int .i64 1, .string p, .string ⟨#[]⟩, .int .i64 kd, .int .u32 (mo % 4096), .int .u32 ui, .int .u32 gi, .int .i64 mt, .int .i64 at_, .string da, .bool false] 121)).cell? ⟨bc, 1, none⟩ = some (.string pa) := by rw [cell_of HK6.out]; rfl
  have b2 : ((w4.alloc (.cells #[.int .i64 kd, .int .u32 (mo % 4096), .int .u32 ui, .int .u32 gi, .int .i64 mt, .int .i64 at_, .string da] 34)).alloc (.cells #[.int .i64 1, .string p, .string ⟨#[]⟩, .int .i64 kd, .int .u32 (mo % 4096), .int .u32 ui, .int .u32 gi, .int .i64 mt, .int .i64 at_, .string da, .bool false] 121)).cell? ⟨bc, 2, none⟩ = some (.string tp) := by rw [cell_of HK6.out]; rfl
  have o0 : ((w4.alloc (.cells #[.int .i64 kd, .int .u32 (mo % 4096), .int .u32 ui, .int .u32 gi, .int .i64 mt, .int .i64 at_, .string da] 34)).alloc (.cells #[.int .i64 1, .string p, .string ⟨#[]⟩, .int .i64 kd, .int .u32 (mo % 4096), .int .u32 ui, .int .u32 gi, .int .i64 mt, .int .i64 at_, .string da, .bool false] 121)).cell? ⟨w4.heap.size, 0, none⟩ = some (.int .i64 kd) := by rw [cell_of HN6.out]; rfl
  have o6 : ((w4.alloc (.cells #[.int .i64 kd, .int .u32 (mo % 4096), .int .u32 ui, .int .u32 gi, .int .i64 mt, .int .i64 at_, .string da] 34)).alloc (.cells #[.int .i64 1, .string p, .string ⟨#[]⟩, .int .i64 kd, .int .u32 (mo % 4096), .int .u32 ui, .int .u32 gi, .int .i64 mt, .int .i64 at_, .string da, .bool false] 121)).cell? ⟨w4.heap.size, 6, none⟩ = some (.string da) := by rw [cell_of HN6.out]; rfl
  have c2 : ((w4.alloc (.cells #[.int .i64 kd, .int .u32 (mo % 4096), .int .u32 ui, .int .u32 gi, .int .i64 mt, .int .i64 at_, .string da] 34)).alloc (.cells #[.int .i64 1, .string p, .string ⟨#[]⟩, .int .i64 kd, .int .u32 (mo % 4096), .int .u32 ui, .int .u32 gi, .int .i64 mt, .int .i64 at_, .string da, .bool false] 121)).cell? ⟨(w4.heap.size + 1), 2, none⟩ = some (.string ⟨#[]⟩) := by rw [cell_of HX6.out]; rfl
  by_cases hkk : kk = 0
  ·
   subst hkk
   have HL := Lib.hid (write_none nzR d pa tp (kd, mo, ui, gi, mt, at_, da) HE.out HKK.out)
   go_wp2
   go_ret
   rw [HL.out]
   exact rpost_same HD6.out HB6.out
  have q0 : (kk == 0) = false := beq_eq_false_iff_ne.2 hkk
  have q1 : (kk != 0) = true := bne_iff_ne.2 hkk
  by_cases hk2 : kk = 2
  ·
   have q2 : (kk == 2) = true := by rw [hk2]; rfl
   have q3 : (kk != 2) = false := by rw [hk2]; rfl
   have HK2 := Lib.hid (HKK.out.trans hk2)
   clear hk2
   have HSU := Lib.hid (fun w h => rsum_any d.shows A c p da.size w h (by omega) (fun x hx => Nat.le_trans (HT.out.data x hx) (by decide)) (by omega) (by omega))
   obtain ⟨M, hM⟩ : ∃ M : Int, M = (da.size : Int) + (sumO d.shows p : Int) := ⟨_, rfl⟩
   rw [← hM] at HSU
   have HM := Lib.hid hM
   clear hM
   go_wp2
   generalize ((w4.alloc (.cells #[.int .i64 kd, .int .u32 (mo % 4096), .int .u32 ui, .int .u32 gi, .int .i64 mt, .int .i64 at_, .string da] 34)).alloc (.cells #[.int .i64 1, .string p, .string ⟨#[]⟩, .int .i64 kd, .int .u32 (mo % 4096), .int .u32 ui, .int .u32 gi, .int .i64 mt, .int .i64 at_, .string da, .bool false] 121)) = W6 at *
   generalize w4.heap.size + 1 = bch at *
   generalize w4.heap.size = bn at *
   have HB6d : Hid (Below W.heap.size W W6.drew) := Lib.hid (below_drew HB6.out)
   have HD6d : Hid (Doc W0 W6.drew b vb (.slice Aw d.waits.length cw) d m) := Lib.hid (doc_below HD6.out (below_drew (Below.refl _ _)))
   have HC6d : Hid (ItemC W6.drew A d.shows) := Lib.hid HC6.out
   have HX6d : Hid (W6.drew.heap[bch]? = some (.cells #[.int .i64 1, .string p, .string ⟨#[]⟩, .int .i64 kd, .int .u32 (mo % 4096), .int .u32 ui, .int .u32 gi, .int .i64 mt, .int .i64 at_, .string da, .bool false] 121 (0, 0))) := Lib.hid HX6.out
   have s0 : W6.drew.cell? ⟨bn, 6, none⟩ = some (.string da) := o6
   have s1 := HD6d.out.at_.c2
   refine start_ (n := 11) (S := fun w' => w'.cell? ⟨bn, 6, none⟩ = some (.string da) ∧ w'.cell? ⟨b, 2, none⟩ = some (.int .i64 d.limit)) (ds := []) (Own.bm 11 0) (by kernel_rfl) rfl rfl ⟨s0, s1⟩ (fun hHeld => ?_)
   generalize W6.drew = W6d at *
   refine pure_ (i := 0) (N := some 135) (v := ?_) (a' := ?_) (Own.bm 11 1) rfl rfl (by kernel_rfl) (fun _ _ _ h => h) (Or.inl ⟨by rfl, ?_⟩) ?_ ?_
   rotate_left;intro w';go_simp;with_reducible rfl;rotate_left;simp only [Act.put, Own.na, Own.nz, Own.ns, i64_w, i32_w];rfl
   refine pure_ (i := 1) (N := some 136) (v := ?_) (a' := ?_) (Own.bm 11 3) rfl rfl (by kernel_rfl) (fun _ _ _ h => h) (Or.inl ⟨by rfl, ?_⟩) ?_ ?_
   rotate_left;intro w';go_simp;with_reducible rfl;rotate_left;simp only [Act.put, Own.na, Own.nz, Own.ns, i64_w, i32_w];rfl
   refine pure_ (i := 2) (N := some 137) (v := ?_) (a' := ?_) (Own.bm 11 7) rfl rfl (by kernel_rfl) (fun _ _ _ h => h) (Or.inl ⟨by rfl, ?_⟩) ?_ ?_
   rotate_left;intro w';go_simp;with_reducible rfl;rotate_left;simp only [Act.put, Own.na, Own.nz, Own.ns, i64_w, i32_w];rfl
   refine pure_ (i := 6) (N := some 141) (v := ?_) (a' := ?_) (Own.bm 11 71) rfl rfl (by kernel_rfl) (fun _ _ _ h => h) (Or.inl ⟨by rfl, ?_⟩) ?_ ?_
   rotate_left;intro w';go_simp;with_reducible rfl;rotate_left;simp only [Act.put, Own.na, Own.nz, Own.ns, i64_w, i32_w];rfl
   refine pure_ (i := 7) (N := some 142) (v := ?_) (a' := ?_) (Own.bm 11 199) rfl rfl (by kernel_rfl) (fun _ _ _ h => h) (Or.inl ⟨by rfl, ?_⟩) ?_ ?_
   rotate_left;intro w';go_simp;with_reducible rfl;rotate_left;simp only [Act.put, Own.na, Own.nz, Own.ns, i64_w, i32_w];rfl
   refine pure_ (i := 8) (N := some 143) (v := ?_) (a' := ?_) (Own.bm 11 455) rfl rfl (by kernel_rfl) (fun _ _ _ h => h) (Or.inl ⟨by rfl, ?_⟩) ?_ ?_
   rotate_left;intro w';go_simp;with_reducible rfl;rotate_left;simp only [Act.put, Own.na, Own.nz, Own.ns, i64_w, i32_w];rfl
   refine take_ (i := 3) (N := some 138) (v := ?_) (a' := ?_) (Own.bm 11 463) rfl rfl (by kernel_rfl) (fun _ _ _ h => h) (Or.inl ⟨by rfl, ?_⟩) hHeld ?_ ?_
   rotate_left;rintro w' ⟨s0, s1⟩;go_simp;with_reducible rfl;rotate_left;simp only [Act.put, Own.na, Own.nz, Own.ns, i64_w, i32_w];rfl
   refine pure_ (i := 4) (N := some 139) (v := ?_) (a' := ?_) (Own.bm 11 479) rfl rfl (by kernel_rfl) (fun _ _ _ h => h) (Or.inl ⟨by rfl, ?_⟩) ?_ ?_
   rotate_left;intro w';go_simp;with_reducible rfl;rotate_left;simp only [Act.put, Own.na, Own.nz, Own.ns, i64_w, i32_w];rfl
   refine take_ (i := 9) (N := some 144) (v := ?_) (a' := ?_) (Own.bm 11 991) rfl rfl (by kernel_rfl) (fun _ _ _ h => h) (Or.inl ⟨by rfl, ?_⟩) hHeld ?_ ?_
   rotate_left;rintro w' ⟨s0, s1⟩;go_simp;with_reducible rfl;rotate_left;simp only [Act.put, Own.na, Own.nz, Own.ns, i64_w, i32_w];rfl
   refine one_ (i := 5) (N := some 140) (Own.bm 11 1023) rfl rfl (by kernel_rfl) (by decide) (fun K hK => ?_)
   refine goes_ Tryz.func119 (by kernel_rfl) rfl #[.slice A d.shows.length c, .string p, .int .i64 da.size] (by rfl) rfl rfl (by simp only [List.map_toArray, List.map_cons, List.map_nil]; rfl) ?_
   with_reducible refine (HSU.out W6d HC6d.out).mono ?_
   rintro e w7 ⟨rfl, hb7⟩
   refine ⟨_, rfl, ?_⟩
   have HB7 := Lib.hid (below_next HB6d.out hb7)
   have HD7 := Lib.hid (doc_below HD6d.out hb7)
   have HX7 := Lib.hid ((hb7.block bch (Array.getElem?_eq_some_iff.1 HX6d.out).1).trans HX6d.out)
   have t0 := pw_cell_below hb7 s0
   have t1 := pw_cell_below hb7 s1
   clear hb7
   refine hK.out _ _ ⟨t0, t1⟩ (fun hHeld => ?_)
   clear hK K
   refine norm_ (a' := ?_) ?_ ?_
   rotate_left
   ·
    show Act.put _ (some 140) _ = _
    simp only [Act.put, Own.na, Own.nz, Own.ns, i64_w, i32_w]
    rfl
   refine pure_ (i := 10) (N := some 145) (v := ?_) (a' := ?_) (Own.bm 11 2047) rfl rfl (by kernel_rfl) (fun _ _ _ h => h) (Or.inl ⟨by rfl, ?_⟩) ?_ ?_
   rotate_left;intro w';go_simp;with_reducible rfl;rotate_left;simp only [Act.put, Own.na, Own.nz, Own.ns, i64_w, i32_w];rfl
   refine done_ (by kernel_rfl) ?_
   clear s0 s1 t0 t1 HB6d HD6d HC6d HX6d HSU
   by_cases hf : d.limit < M
   ·
    have hf1 : decide (d.limit < M) = true := decide_eq_true hf
    have HL := Lib.hid (write_full nzR d pa tp (kd, mo, ui, gi, mt, at_, da) HE.out HK2.out (show d.limit < (da.size : Int) + (sumO d.shows (realP d.shows pa).1 : Int) by rw [HP.out]; have := HM.out; omega))
    go_wp2
    go_ret
    rw [HL.out]
    exact rpost_same HD7.out HB7.out
   have hf1 : decide (d.limit < M) = false := decide_eq_false hf
   have HL := Lib.hid (write_ok nzR d pa tp (kd, mo, ui, gi, mt, at_, da) HE.out HK2.out (show ¬ d.limit < (da.size : Int) + (sumO d.shows (realP d.shows pa).1 : Int) by rw [HP.out]; have := HM.out; omega))
   go_wp2
   have HD9 : Hid (Doc W0 w7.drew b vb (.slice Aw d.waits.length cw) d m) := Lib.hid (doc_below HD7.out (below_drew (Below.refl _ _)))
   have HB9 : Hid (Below W.heap.size W w7.drew) := Lib.hid (below_drew HB7.out)
   have HX9 : Hid (w7.drew.heap[bch]? = some (.cells #[.int .i64 1, .string p, .string ⟨#[]⟩, .int .i64 kd, .int .u32 (mo % 4096), .int .u32 ui, .int .u32 gi, .int .i64 mt, .int .i64 at_, .string da, .bool false] 121 (0, 0))) := Lib.hid HX7.out
   have r0 := HD9.out.at_.c1
   obtain ⟨r1, r2, r3, r4, r5, r6, r7, r8, r9, r10, r11⟩ := Own.cs11 HX9.out
   refine start_ (n := 11) (S := fun w' => w'.cell? ⟨b, 1, none⟩ = some (.slice Aw d.waits.length cw) ∧ w'.cell? ⟨bch, 0, none⟩ = some (.int .i64 1) ∧ w'.cell? ⟨bch, 1, none⟩ = some (.string p) ∧ w'.cell? ⟨bch, 2, none⟩ = some (.string ⟨#[]⟩) ∧ w'.cell? ⟨bch, 3, none⟩ = some (.int .i64 kd) ∧ w'.cell? ⟨bch, 4, none⟩ = some (.int .u32 (mo % 4096)) ∧ w'.cell? ⟨bch, 5, none⟩ = some (.int .u32 ui) ∧ w'.cell? ⟨bch, 6, none⟩ = some (.int .u32 gi) ∧ w'.cell? ⟨bch, 7, none⟩ = some (.int .i64 mt) ∧ w'.cell? ⟨bch, 8, none⟩ = some (.int .i64 at_) ∧ w'.cell? ⟨bch, 9, none⟩ = some (.string da) ∧ w'.cell? ⟨bch, 10, none⟩ = some (.bool false)) (ds := [10]) (Own.bm 11 0) (by kernel_rfl) rfl rfl ⟨r0, r1, r2, r3, r4, r5, r6, r7, r8, r9, r10, r11⟩ (fun hHeld => ?_)
   generalize w7.drew = W9 at *
   refine pure_ (i := 0) (N := some 190) (v := ?_) (a' := ?_) (Own.bm 11 1) rfl rfl (by kernel_rfl) (fun _ _ _ h => h) (Or.inl ⟨by rfl, ?_⟩) ?_ ?_
   rotate_left;intro w';go_simp;with_reducible rfl;rotate_left;simp only [Act.put, Own.na, Own.nz, Own.ns, i64_w, i32_w];rfl
   refine pure_ (i := 1) (N := some 191) (v := ?_) (a' := ?_) (Own.bm 11 3) rfl rfl (by kernel_rfl) (fun _ _ _ h => h) (Or.inl ⟨by rfl, ?_⟩) ?_ ?_
   rotate_left;intro w';go_simp;with_reducible rfl;rotate_left;simp only [Act.put, Own.na, Own.nz, Own.ns, i64_w, i32_w];rfl
   refine pure_ (i := 2) (N := some 192) (v := ?_) (a' := ?_) (Own.bm 11 7) rfl rfl (by kernel_rfl) (fun _ _ _ h => h) (Or.inl ⟨by rfl, ?_⟩) ?_ ?_
   rotate_left;intro w';go_simp;with_reducible rfl;rotate_left;simp only [Act.put, Own.na, Own.nz, Own.ns, i64_w, i32_w];rfl
   refine pure_ (i := 3) (N := some 193) (v := ?_) (a' := ?_) (Own.bm 11 15) rfl rfl (by kernel_rfl) (fun _ _ _ h => h) (Or.inl ⟨by rfl, ?_⟩) ?_ ?_
   rotate_left;intro w';go_simp;with_reducible rfl;rotate_left;simp only [Act.put, Own.na, Own.nz, Own.ns, i64_w, i32_w];rfl
   refine take_ (i := 4) (N := some 194) (v := ?_) (a' := ?_) (Own.bm 11 31) rfl rfl (by kernel_rfl) (fun _ _ _ h => h) (Or.inl ⟨by rfl, ?_⟩) hHeld ?_ ?_
   rotate_left;rintro w' ⟨s0, s1, s2, s3, s4, s5, s6, s7, s8, s9, s10, s11⟩;go_simp;with_reducible rfl;rotate_left;simp only [Act.put, Own.na, Own.nz, Own.ns, i64_w, i32_w];rfl
   refine take_ (i := 5) (N := some 195) (v := ?_) (a' := ?_) (Own.bm 11 63) rfl rfl (by kernel_rfl) (fun _ _ _ h => h) (Or.inl ⟨by rfl, ?_⟩) hHeld ?_ ?_
   rotate_left;rintro w' ⟨s0, s1, s2, s3, s4, s5, s6, s7, s8, s9, s10, s11⟩;go_simp;with_reducible rfl;rotate_left;simp only [Act.put, Own.na, Own.nz, Own.ns, i64_w, i32_w];rfl
   refine one_ (i := 6) (N := some 196) (Own.bm 11 127) rfl rfl (by kernel_rfl) (by decide) (fun K hK => ?_)
   refine value_ (w1 := ?_) (v := ?_) (by rfl) rfl ?_ ?_
   rotate_left 2
   ·
    go_simp
    constructor
    ·
     rfl
    rfl
   refine hK.out _ _ ⟨pw_cell_below (below_one _ _) r0, pw_cell_below (below_one _ _) r1, pw_cell_below (below_one _ _) r2, pw_cell_below (below_one _ _) r3, pw_cell_below (below_one _ _) r4, pw_cell_below (below_one _ _) r5, pw_cell_below (below_one _ _) r6, pw_cell_below (below_one _ _) r7, pw_cell_below (below_one _ _) r8, pw_cell_below (below_one _ _) r9, pw_cell_below (below_one _ _) r10, pw_cell_below (below_one _ _) r11⟩ (fun hHeld => ?_)
   clear hK K
   refine norm_ (a' := ?_) ?_ ?_
   rotate_left
   ·
    show Act.put _ (some 196) _ = _
    simp only [Act.put, Own.na, Own.nz, Own.ns, i64_w, i32_w]
    rfl
   refine one_ (i := 7) (N := some 197) (Own.bm 11 255) rfl rfl (by kernel_rfl) (by decide) (fun K hK => ?_)
   refine Kd.R_append_step chK (w0 := W9) W0.heap.size (by rfl) (.tmp 194) (.tmp 196) 85 121 (.agg #[.int .i64 0, .string ByteArray.empty, .string ByteArray.empty, .int .i64 0, .int .u32 0, .int .u32 0, .int .u32 0, .int .i64 0, .int .i64 0, .string ByteArray.empty, .bool false]) 104 rfl Tryz.underlying85 infoRCh rfl (by decide) (by decide) _ d.waits (1, p, ⟨#[]⟩, (kd, masked mo, ui, gi, mt, at_, da), false) [.int .i64 1, .string p, .string ⟨#[]⟩, .int .i64 kd, .int .u32 (mo % 4096), .int .u32 ui, .int .u32 gi, .int .i64 mt, .int .i64 at_, .string da, .bool false] (fun _ => True) (fun _ => False) rfl rfl ?aP (fun _ hk => hk.elim) ?aF ?aO ?aB ?aS ?aL ?_
   (case aP => exact chK_M _ _ _ _ _ _ _ _ _ _ _ _ _ _)
   (case aB => exact Below.refl _ _)
   (case aF => exact (fun _ _ => trivial))
   (case aO => exact HD9.out.at_.rw)
   (case aS => exact HD9.out.low.size)
   (case aL => have := HD9.out.bnd.len; omega)
   intro v1 w10 ho hb8 hg8 hat8
   obtain ⟨A2, c2, hv2⟩ := Kd.R_slice ho
   generalize (d.waits ++ ([(1, p, ⟨#[]⟩, (kd, masked mo, ui, gi, mt, at_, da), false)] : List Chg)).length = N at hv2
   subst hv2
   have HO10 := Lib.hid ho
   have HG10 := Lib.hid hg8
   have HA10 := Lib.hid hat8
   have q0 := cell_grown hg8 r0 (Kd.R_ne HD9.out.at_.rw HD9.out.at_.blk (by decide))
   have q1 := cell_grown hg8 r1 (fun e => HQB.out bch (.inr (.inr e.symm)) rfl)
   have q2 := cell_grown hg8 r2 (fun e => HQB.out bch (.inr (.inr e.symm)) rfl)
   have q3 := cell_grown hg8 r3 (fun e => HQB.out bch (.inr (.inr e.symm)) rfl)
   have q4 := cell_grown hg8 r4 (fun e => HQB.out bch (.inr (.inr e.symm)) rfl)
   have q5 := cell_grown hg8 r5 (fun e => HQB.out bch (.inr (.inr e.symm)) rfl)
   have q6 := cell_grown hg8 r6 (fun e => HQB.out bch (.inr (.inr e.symm)) rfl)
   have q7 := cell_grown hg8 r7 (fun e => HQB.out bch (.inr (.inr e.symm)) rfl)
   have q8 := cell_grown hg8 r8 (fun e => HQB.out bch (.inr (.inr e.symm)) rfl)
   have q9 := cell_grown hg8 r9 (fun e => HQB.out bch (.inr (.inr e.symm)) rfl)
   have q10 := cell_grown hg8 r10 (fun e => HQB.out bch (.inr (.inr e.symm)) rfl)
   have q11 := cell_grown hg8 r11 (fun e => HQB.out bch (.inr (.inr e.symm)) rfl)
   have z8 : w10.frozen? ⟨b, 1, none⟩ = false := frozen_of ((hg8.block b HD9.out.at_.lt (Kd.R_ne HD9.out.at_.rw HD9.out.at_.blk (by decide))).trans HD9.out.at_.blk) 1
   clear ho hb8 hg8 hat8
   refine hK.out _ _ ⟨q0, q1, q2, q3, q4, q5, q6, q7, q8, q9, q10, q11⟩ (fun hHeld => ?_)
   clear hK K
   refine norm_ (a' := ?_) ?_ ?_
   rotate_left
   ·
    show Act.put _ (some 197) _ = _
    simp only [Act.put, Own.na, Own.nz, Own.ns, i64_w, i32_w]
    rfl
   refine pure_ (i := 8) (N := some 198) (v := ?_) (a' := ?_) (Own.bm 11 511) rfl rfl (by kernel_rfl) (fun _ _ _ h => h) (Or.inl ⟨by rfl, ?_⟩) ?_ ?_
   rotate_left;intro w';go_simp;with_reducible rfl;rotate_left;simp only [Act.put, Own.na, Own.nz, Own.ns, i64_w, i32_w];rfl
   refine pure_ (i := 9) (N := some 199) (v := ?_) (a' := ?_) (Own.bm 11 1023) rfl rfl (by kernel_rfl) (fun _ _ _ h => h) (Or.inl ⟨by rfl, ?_⟩) ?_ ?_
   rotate_left;intro w';go_simp;with_reducible rfl;rotate_left;simp only [Act.put, Own.na, Own.nz, Own.ns, i64_w, i32_w];rfl
   refine last_ (i := 10) (N := none) (Own.bm 11 2047) rfl rfl (by kernel_rfl) (by decide) (fun K hK => ?_)
   refine skip_ (w1 := ?_) (by rfl) rfl ?_ ?_
   rotate_left
   ·
    go_simp
    rfl
   refine hK.out _ _ ?_
   clear hK K
   refine done_ (by kernel_rfl) ?_
   have HA11 := Lib.hid (rwaits HD9.out.at_ HO10.out HG10.out)
   have HS11 := Lib.hid ((Still.below HB9.out (ROwns b vb (.slice Aw d.waits.length cw))).trans (still_rwaits (v1 := .slice A2 N c2) b vb HG10.out HA10.out (.slice A2 N c2)))
   clear HO10 HG10 HA10 z8 HX9 HB9 r0 r1 r2 r3 r4 r5 r6 r7 r8 r9 r10 r11 q0 q1 q2 q3 q4 q5 q6 q7 q8 q9 q10 q11
   go_wp2
   go_ret
   rw [HL.out, HP.out]
   exact ⟨rfl, vb, _, HA11.out, HS11.out⟩
  have q2 : (kk == 2) = false := beq_eq_false_iff_ne.2 hk2
  have q3 : (kk != 2) = true := bne_iff_ne.2 hk2
  have HL := Lib.hid (write_kind nzR d pa tp (kd, mo, ui, gi, mt, at_, da) HE.out (by rw [HKK.out]; exact hkk) (by rw [HKK.out]; exact hk2))
  go_wp2
  go_ret
  rw [HL.out]
  exact rpost_same HD6.out HB6.out
 have v0 : (ee == 0) = false := beq_eq_false_iff_ne.2 he
 have v1 : (ee != 0) = true := bne_iff_ne.2 he
 have HL := Lib.hid (own_real nzR d 1 pa tp (kd, mo, ui, gi, mt, at_, da) (by decide) (by rw [← HR.out]; exact he))
 rw [← HR.out] at HL
 clear he
 go_wp2
 go_ret
 rw [HL.out]
 exact rpost_same HD3.out HB3.out
end Go.Proofs.YtibmfjacfbpfgaaGreatDoor.ROwnWrite
namespace Go.Proofs.YtibmfjacfbpfgaaGreatDoor.ROwnMeta
open Go.RowKit YtibmfjacfbpfgaaGreatDoorW.PrintWords YtibmfjacfbpfgaaGreatDoorW.PrintLast YtibmfjacfbpfgaaGreatDoorW.PrintMore NameLaw NameWalk NameRef NameUse YtibmfjacfbpfgaaGreatDoor.Item Own NodeRes TreeLaw TreeRef SortIns SortSwap FillLaw DiffLaw RealLaw RealKeep KeepLaw OpLaw OpKeep DkLaw OwnLeaf DSmall DSync RLead RReal RDisk RSum ROwnA
set_option maxHeartbeats 8000000 in
set_option maxRecDepth 100000 in
theorem rown_meta (W0 W : World) (b : Nat) (vb vw : Value) (d : Dk) (m : Nat) (hD : Doc W0 W b vb vw d m) (hm : m ≤ 700000) (pa tp : ByteArray) (kd mo ui gi mt at_ : Int) (da : ByteArray) (hp : pa.size ≤ 10000) (htp : tp.size ≤ 10000) (hda : da.size ≤ 100000) (hmo : 0 ≤ mo) :
  Calls Tryz.prog 84 #[.pointer (some ⟨b, 0, none⟩), .agg #[.int .i64 4, .string pa, .string tp, .int .i64 kd, .int .u32 mo, .int .u32 ui, .int .u32 gi, .int .i64 mt, .int .i64 at_, .string da]] W (RPost W0 W b vb vw (ownD nzR d 4 pa tp (kd, mo, ui, gi, mt, at_, da))) := by
 obtain ⟨Aw, cw, rfl⟩ := Kd.R_slice hD.at_.rw
 have hsh := hD.bnd.shows
 have HT := Lib.hid (doc_tree (Trees.shows hD.trees) hsh.1 (by omega) hsh.2)
 have hlen := hsh.1
 have hb1 := below_one W (.cells #[.int .i64 4, .string pa, .string tp, .int .i64 kd, .int .u32 mo, .int .u32 ui, .int .u32 gi, .int .i64 mt, .int .i64 at_, .string da] 91)
 have HD1 := Lib.hid (doc_below hD hb1)
 have HB1 := Lib.hid hb1
 have HK1 := Lib.hid (heap_new W (.cells #[.int .i64 4, .string pa, .string tp, .int .i64 kd, .int .u32 mo, .int .u32 ui, .int .u32 gi, .int .i64 mt, .int .i64 at_, .string da] 91))
 have HSH := Lib.hid (rshows_any W0 (W.alloc (.cells #[.int .i64 4, .string pa, .string tp, .int .i64 kd, .int .u32 mo, .int .u32 ui, .int .u32 gi, .int .i64 mt, .int .i64 at_, .string da] 91)) b vb (.slice Aw d.waits.length cw) d m HD1.out (by omega))
 clear hb1 hD hsh
 go_enter Tryz.func84, Tryz.ntmps84
 go_wp2_with fail
 generalize W.alloc (.cells #[.int .i64 4, .string pa, .string tp, .int .i64 kd, .int .u32 mo, .int .u32 ui, .int .u32 gi, .int .i64 mt, .int .i64 at_, .string da] 91) = W1 at *
 obtain ⟨bc, hbc⟩ : ∃ bc, bc = W.heap.size := ⟨_, rfl⟩
 rw [← hbc] at HK1 ⊢
 have hbc2 : W.heap.size ≤ bc := by omega
 clear hbc
 refine HSH.out.mono ?_
 rintro e w2 ⟨v2, rfl, hr2, hb2⟩
 obtain ⟨A, c, hv⟩ := Kd.R_slice hr2
 subst hv
 have HC := Lib.hid (Kd.R_reads' hr2).2.2
 have HB2 := Lib.hid (below_next HB1.out hb2)
 have HK2 := Lib.hid ((hb2.block bc (Array.getElem?_eq_some_iff.1 HK1.out).1).trans HK1.out)
 have HD2 := Lib.hid (doc_below HD1.out hb2)
 have HR2 := Lib.hid (Kd.R_lower hr2 HB1.out.size)
 clear hr2 hb2 HSH HD1 HB1 HK1
 obtain ⟨k0, k1, k2, k3, k4, k5, k6, k7, k8, k9⟩ := Own.cs10 HK2.out
 have HRL := Lib.hid (rreal_any d.shows HT.out w2 A c HC.out pa (by omega))
 obtain ⟨R, hR⟩ : ∃ R, R = realP d.shows pa := ⟨_, rfl⟩
 rw [← hR] at HRL
 have HR := Lib.hid hR
 clear hR
 obtain ⟨p, ee⟩ := R
 simp only at HRL
 go_wp2_with fail
 refine HRL.out.mono ?_
 rintro e w3 ⟨rfl, hb3⟩
 have HB3 := Lib.hid (below_next HB2.out hb3)
 have HK3 := Lib.hid ((hb3.block bc (Array.getElem?_eq_some_iff.1 HK2.out).1).trans HK2.out)
 have HD3 := Lib.hid (doc_below HD2.out hb3)
 have HC3 := Lib.hid (Kd.C_below HC.out hb3)
 clear hb3 HRL HK2 HC HB2 HD2 HR2 k0 k1 k2 k3 k4 k5 k6 k7 k8 k9
 obtain ⟨k0, k1, k2, k3, k4, k5, k6, k7, k8, k9⟩ := Own.cs10 HK3.out
 by_cases he : ee = 0
 ·
  subst he
  have HE := Lib.hid (show (realP d.shows pa).2 = 0 by rw [← HR.out])
  have HP := Lib.hid (show (realP d.shows pa).1 = p by rw [← HR.out])
  have HKD := Lib.hid (rkind_any d.shows A c p w3 HC3.out)
  have hps : p.size ≤ 9000 := by have := real_tiny (Trees.shows HD3.out.trees) HE.out; rw [HP.out] at this; exact this
  obtain ⟨kk, hkk⟩ : ∃ kk, kk = kindOf d.shows p := ⟨_, rfl⟩
  rw [← hkk] at HKD
  have HKK := Lib.hid (show kindOf d.shows (realP d.shows pa).1 = kk by rw [HP.out]; exact hkk.symm)
  clear hkk
  go_wp2_with fail
  refine HKD.out.mono ?_
  rintro e w4 ⟨rfl, hb4⟩
  have HB4 := Lib.hid (below_next HB3.out hb4)
  have HK4 := Lib.hid ((hb4.block bc (Array.getElem?_eq_some_iff.1 HK3.out).1).trans HK3.out)
  have HD4 := Lib.hid (doc_below HD3.out hb4)
  have HC4 := Lib.hid (Kd.C_below HC3.out hb4)
  clear hb4 HKD HK3 HC3 HB3 HD3 k0 k1 k2 k3 k4 k5 k6 k7 k8 k9
  obtain ⟨k0, k1, k2, k3, k4, k5, k6, k7, k8, k9⟩ := Own.cs10 HK4.out
  have hb5 := below_one w4 (.cells #[.int .i64 kd, .int .u32 (mo % 4096), .int .u32 ui, .int .u32 gi, .int .i64 mt, .int .i64 at_, .string da] 34)
  have hb6 := below_one (w4.alloc (.cells #[.int .i64 kd, .int .u32 (mo % 4096), .int .u32 ui, .int .u32 gi, .int .i64 mt, .int .i64 at_, .string da] 34)) (.cells #[.int .i64 4, .string p, .string ⟨#[]⟩, .int .i64 kd, .int .u32 (mo % 4096), .int .u32 ui, .int .u32 gi, .int .i64 mt, .int .i64 at_, .string da, .bool false] 121)
  have HN5 := Lib.hid (heap_new w4 (.cells #[.int .i64 kd, .int .u32 (mo % 4096), .int .u32 ui, .int .u32 gi, .int .i64 mt, .int .i64 at_, .string da] 34))
  have HK5 := Lib.hid ((hb5.block bc (Array.getElem?_eq_some_iff.1 HK4.out).1).trans HK4.out)
  have HSZ5 : (w4.alloc (.cells #[.int .i64 kd, .int .u32 (mo % 4096), .int .u32 ui, .int .u32 gi, .int .i64 mt, .int .i64 at_, .string da] 34)).heap.size = w4.heap.size + 1 := Array.size_push _
  have HX6 := Lib.hid (heap_new (w4.alloc (.cells #[.int .i64 kd, .int .u32 (mo % 4096), .int .u32 ui, .int .u32 gi, .int .i64 mt, .int .i64 at_, .string da] 34)) (.cells #[.int .i64 4, .string p, .string ⟨#[]⟩, .int .i64 kd, .int .u32 (mo % 4096), .int .u32 ui, .int .u32 gi, .int .i64 mt, .int .i64 at_, .string da, .bool false] 121))
  rw [HSZ5] at HX6
  have HN6 := Lib.hid ((hb6.block w4.heap.size (Array.getElem?_eq_some_iff.1 HN5.out).1).trans HN5.out)
  have HK6 := Lib.hid ((hb6.block bc (Array.getElem?_eq_some_iff.1 HK5.out).1).trans HK5.out)
  have HB5 := Lib.hid (below_next HB4.out hb5)
  have HB6 := Lib.hid (below_next HB5.out hb6)
  have HD6 := Lib.hid (doc_below (doc_below HD4.out hb5) hb6)
  have HC6 := Lib.hid (Kd.C_below (Kd.C_below HC4.out hb5) hb6)
  have HQB : Hid (∀ k, ROwns b vb (.slice Aw d.waits.length cw) k → k ≠ w4.heap.size + 1) := Lib.hid (fun k hk => Nat.ne_of_lt (Nat.lt_succ_of_lt (rowns_lt HD4.out.at_ k hk)))
  have HNX := Lib.hid (show w4.heap.size ≠ w4.heap.size + 1 by omega)
  clear HSZ5
  have z1 := frozen_of HN5.out 1
  clear hb5 hb6 HB4 HD4 HC4
  have a0 : (w4.alloc (.cells #[.int .i64 kd, .int .u32 (mo % 4096), .int .u32 ui, .int .u32 gi, .int .i64 mt, .int .i64 at_, .string da] 34)).cell? ⟨bc, 0, none⟩ = some (.int .i64 4) := by rw [cell_of HK5.out]; rfl
  obtain ⟨n0, n1, n2, n3, n4, n5, n6⟩ := Own.cs7 HN5.out
  have b0 : ((w4.alloc (.cells #[.int .i64 kd, .int .u32 (mo % 4096), .int .u32 ui, .int .u32 gi, .int .i64 mt, .int .i64 at_, .string da] 34)).alloc (.cells #[.int .i64 4, .string p, .string ⟨#[]⟩, .int .i64 kd, .int .u32 (mo % 4096), .int .u32 ui, .int .u32 gi, .int .i64 mt, .int .i64 at_, .string da, .bool false] 121)).cell? ⟨bc, 0, none⟩ = some (.int .i64 4) := by rw [cell_of HK6.out]; rfl
  have b1 : ((w4.alloc (.cells #[.int .i64 kd, .int .u32 (mo % 4096), .int .u32 ui, .int .u32 gi, .int .i64 mt, .int .i64 at_, .string da] 34)).alloc (.cells #[.int .i64 4, .string p, .string ⟨#[]⟩, .int .i64 kd, .int .u32 (mo % 4096), .int .u32 ui, .int .u32 gi, .int .i64 mt, .int .i64 at_, .string da, .bool false] 121)).cell? ⟨bc, 1, none⟩ = some (.string pa) := by rw [cell_of HK6.out]; rfl
  have b2 : ((w4.alloc (.cells #[.int .i64 kd, .int .u32 (mo % 4096), .int .u32 ui, .int .u32 gi, .int .i64 mt, .int .i64 at_, .string da] 34)).alloc (.cells #[.int .i64 4, .string p, .string ⟨#[]⟩, .int .i64 kd, .int .u32 (mo % 4096), .int .u32 ui, .int .u32 gi, .int .i64 mt, .int .i64 at_, .string da, .bool false] 121)).cell? ⟨bc, 2, none⟩ = some (.string tp) := by rw [cell_of HK6.out]; rfl
  have o0 : ((w4.alloc (.cells #[.int .i64 kd, .int .u32 (mo % 4096), .int .u32 ui, .int .u32 gi, .int .i64 mt, .int .i64 at_, .string da] 34)).alloc (.cells #[.int .i64 4, .string p, .string ⟨#[]⟩, .int .i64 kd, .int .u32 (mo % 4096), .int .u32 ui, .int .u32 gi, .int .i64 mt, .int .i64 at_, .string da, .bool false] 121)).cell? ⟨w4.heap.size, 0, none⟩ = some (.int .i64 kd) := by rw [cell_of HN6.out]; rfl
  have o6 : ((w4.alloc (.cells #[.int .i64 kd, .int .u32 (mo % 4096), .int .u32 ui, .int .u32 gi, .int .i64 mt, .int .i64 at_, .string da] 34)).alloc (.cells #[.int .i64 4, .string p, .string ⟨#[]⟩, .int .i64 kd, .int .u32 (mo % 4096), .int .u32 ui, .int .u32 gi, .int .i64 mt, .int .i64 at_, .string da, .bool false] 121)).cell? ⟨w4.heap.size, 6, none⟩ = some (.string da) := by rw [cell_of HN6.out]; rfl
  have c2 : ((w4.alloc (.cells #[.int .i64 kd, .int .u32 (mo % 4096), .int .u32 ui, .int .u32 gi, .int .i64 mt, .int .i64 at_, .string da] 34)).alloc (.cells #[.int .i64 4, .string p, .string ⟨#[]⟩, .int .i64 kd, .int .u32 (mo % 4096), .int .u32 ui, .int .u32 gi, .int .i64 mt, .int .i64 at_, .string da, .bool false] 121)).cell? ⟨(w4.heap.size + 1), 2, none⟩ = some (.string ⟨#[]⟩) := by rw [cell_of HX6.out]; rfl
  by_cases hkk : kk = 0
  ·
   subst hkk
   have HL := Lib.hid (meta_none nzR d pa tp (kd, mo, ui, gi, mt, at_, da) HE.out HKK.out)
   go_wp2
   go_ret
   rw [HL.out]
   exact rpost_same HD6.out HB6.out
  have q0 : (kk == 0) = false := beq_eq_false_iff_ne.2 hkk
  have q1 : (kk != 0) = true := bne_iff_ne.2 hkk
  have HL := Lib.hid (meta_ok nzR d pa tp (kd, mo, ui, gi, mt, at_, da) HE.out (by rw [HKK.out]; exact hkk))
  go_wp2
  generalize ((w4.alloc (.cells #[.int .i64 kd, .int .u32 (mo % 4096), .int .u32 ui, .int .u32 gi, .int .i64 mt, .int .i64 at_, .string da] 34)).alloc (.cells #[.int .i64 4, .string p, .string ⟨#[]⟩, .int .i64 kd, .int .u32 (mo % 4096), .int .u32 ui, .int .u32 gi, .int .i64 mt, .int .i64 at_, .string da, .bool false] 121)) = W6 at *
  generalize w4.heap.size + 1 = bch at *
  generalize w4.heap.size = bn at *
  have HD9 : Hid (Doc W0 W6.drew b vb (.slice Aw d.waits.length cw) d m) := Lib.hid (doc_below HD6.out (below_drew (Below.refl _ _)))
  have HB9 : Hid (Below W.heap.size W W6.drew) := Lib.hid (below_drew HB6.out)
  have HX9 : Hid (W6.drew.heap[bch]? = some (.cells #[.int .i64 4, .string p, .string ⟨#[]⟩, .int .i64 kd, .int .u32 (mo % 4096), .int .u32 ui, .int .u32 gi, .int .i64 mt, .int .i64 at_, .string da, .bool false] 121 (0, 0))) := Lib.hid HX6.out
  have r0 := HD9.out.at_.c1
  obtain ⟨r1, r2, r3, r4, r5, r6, r7, r8, r9, r10, r11⟩ := Own.cs11 HX9.out
  refine start_ (n := 11) (S := fun w' => w'.cell? ⟨b, 1, none⟩ = some (.slice Aw d.waits.length cw) ∧ w'.cell? ⟨bch, 0, none⟩ = some (.int .i64 4) ∧ w'.cell? ⟨bch, 1, none⟩ = some (.string p) ∧ w'.cell? ⟨bch, 2, none⟩ = some (.string ⟨#[]⟩) ∧ w'.cell? ⟨bch, 3, none⟩ = some (.int .i64 kd) ∧ w'.cell? ⟨bch, 4, none⟩ = some (.int .u32 (mo % 4096)) ∧ w'.cell? ⟨bch, 5, none⟩ = some (.int .u32 ui) ∧ w'.cell? ⟨bch, 6, none⟩ = some (.int .u32 gi) ∧ w'.cell? ⟨bch, 7, none⟩ = some (.int .i64 mt) ∧ w'.cell? ⟨bch, 8, none⟩ = some (.int .i64 at_) ∧ w'.cell? ⟨bch, 9, none⟩ = some (.string da) ∧ w'.cell? ⟨bch, 10, none⟩ = some (.bool false)) (ds := [10]) (Own.bm 11 0) (by kernel_rfl) rfl rfl ⟨r0, r1, r2, r3, r4, r5, r6, r7, r8, r9, r10, r11⟩ (fun hHeld => ?_)
  generalize W6.drew = W9 at *
  refine pure_ (i := 0) (N := some 190) (v := ?_) (a' := ?_) (Own.bm 11 1) rfl rfl (by kernel_rfl) (fun _ _ _ h => h) (Or.inl ⟨by rfl, ?_⟩) ?_ ?_
  rotate_left;intro w';go_simp;with_reducible rfl;rotate_left;simp only [Act.put, Own.na, Own.nz, Own.ns, i64_w, i32_w];rfl
  refine pure_ (i := 1) (N := some 191) (v := ?_) (a' := ?_) (Own.bm 11 3) rfl rfl (by kernel_rfl) (fun _ _ _ h => h) (Or.inl ⟨by rfl, ?_⟩) ?_ ?_
  rotate_left;intro w';go_simp;with_reducible rfl;rotate_left;simp only [Act.put, Own.na, Own.nz, Own.ns, i64_w, i32_w];rfl
  refine pure_ (i := 2) (N := some 192) (v := ?_) (a' := ?_) (Own.bm 11 7) rfl rfl (by kernel_rfl) (fun _ _ _ h => h) (Or.inl ⟨by rfl, ?_⟩) ?_ ?_
  rotate_left;intro w';go_simp;with_reducible rfl;rotate_left;simp only [Act.put, Own.na, Own.nz, Own.ns, i64_w, i32_w];rfl
  refine pure_ (i := 3) (N := some 193) (v := ?_) (a' := ?_) (Own.bm 11 15) rfl rfl (by kernel_rfl) (fun _ _ _ h => h) (Or.inl ⟨by rfl, ?_⟩) ?_ ?_
  rotate_left;intro w';go_simp;with_reducible rfl;rotate_left;simp only [Act.put, Own.na, Own.nz, Own.ns, i64_w, i32_w];rfl
  refine take_ (i := 4) (N := some 194) (v := ?_) (a' := ?_) (Own.bm 11 31) rfl rfl (by kernel_rfl) (fun _ _ _ h => h) (Or.inl ⟨by rfl, ?_⟩) hHeld ?_ ?_
  rotate_left;rintro w' ⟨s0, s1, s2, s3, s4, s5, s6, s7, s8, s9, s10, s11⟩;go_simp;with_reducible rfl;rotate_left;simp only [Act.put, Own.na, Own.nz, Own.ns, i64_w, i32_w];rfl
  refine take_ (i := 5) (N := some 195) (v := ?_) (a' := ?_) (Own.bm 11 63) rfl rfl (by kernel_rfl) (fun _ _ _ h => h) (Or.inl ⟨by rfl, ?_⟩) hHeld ?_ ?_
  rotate_left;rintro w' ⟨s0, s1, s2, s3, s4, s5, s6, s7, s8, s9, s10, s11⟩;go_simp;with_reducible rfl;rotate_left;simp only [Act.put, Own.na, Own.nz, Own.ns, i64_w, i32_w];rfl
  refine one_ (i := 6) (N := some 196) (Own.bm 11 127) rfl rfl (by kernel_rfl) (by decide) (fun K hK => ?_)
  refine value_ (w1 := ?_) (v := ?_) (by rfl) rfl ?_ ?_
  rotate_left 2
  ·
   go_simp
   constructor
   ·
    rfl
   rfl
  refine hK.out _ _ ⟨pw_cell_below (below_one _ _) r0, pw_cell_below (below_one _ _) r1, pw_cell_below (below_one _ _) r2, pw_cell_below (below_one _ _) r3, pw_cell_below (below_one _ _) r4, pw_cell_below (below_one _ _) r5, pw_cell_below (below_one _ _) r6, pw_cell_below (below_one _ _) r7, pw_cell_below (below_one _ _) r8, pw_cell_below (below_one _ _) r9, pw_cell_below (below_one _ _) r10, pw_cell_below (below_one _ _) r11⟩ (fun hHeld => ?_)
  clear hK K
  refine norm_ (a' := ?_) ?_ ?_
  rotate_left
  ·
   show Act.put _ (some 196) _ = _
   simp only [Act.put, Own.na, Own.nz, Own.ns, i64_w, i32_w]
   rfl
  refine one_ (i := 7) (N := some 197) (Own.bm 11 255) rfl rfl (by kernel_rfl) (by decide) (fun K hK => ?_)
  refine Kd.R_append_step chK (w0 := W9) W0.heap.size (by rfl) (.tmp 194) (.tmp 196) 85 121 (.agg #[.int .i64 0, .string ByteArray.empty, .string ByteArray.empty, .int .i64 0, .int .u32 0, .int .u32 0, .int .u32 0, .int .i64 0, .int .i64 0, .string ByteArray.empty, .bool false]) 104 rfl Tryz.underlying85 infoRCh rfl (by decide) (by decide) _ d.waits (4, p, ⟨#[]⟩, (kd, masked mo, ui, gi, mt, at_, da), false) [.int .i64 4, .string p, .string ⟨#[]⟩, .int .i64 kd, .int .u32 (mo % 4096), .int .u32 ui, .int .u32 gi, .int .i64 mt, .int .i64 at_, .string da, .bool false] (fun _ => True) (fun _ => False) rfl rfl ?aP (fun _ hk => hk.elim) ?aF ?aO ?aB ?aS ?aL ?_
  (case aP => exact chK_M _ _ _ _ _ _ _ _ _ _ _ _ _ _)
  (case aB => exact Below.refl _ _)
  (case aF => exact (fun _ _ => trivial))
  (case aO => exact HD9.out.at_.rw)
  (case aS => exact HD9.out.low.size)
  (case aL => have := HD9.out.bnd.len; omega)
  intro v1 w10 ho hb8 hg8 hat8
  obtain ⟨A2, c2, hv2⟩ := Kd.R_slice ho
  generalize (d.waits ++ ([(4, p, ⟨#[]⟩, (kd, masked mo, ui, gi, mt, at_, da), false)] : List Chg)).length = N at hv2
  subst hv2
  have HO10 := Lib.hid ho
  have HG10 := Lib.hid hg8
  have HA10 := Lib.hid hat8
  have q0 := cell_grown hg8 r0 (Kd.R_ne HD9.out.at_.rw HD9.out.at_.blk (by decide))
  have q1 := cell_grown hg8 r1 (fun e => HQB.out bch (.inr (.inr e.symm)) rfl)
  have q2 := cell_grown hg8 r2 (fun e => HQB.out bch (.inr (.inr e.symm)) rfl)
  have q3 := cell_grown hg8 r3 (fun e => HQB.out bch (.inr (.inr e.symm)) rfl)
  have q4 := cell_grown hg8 r4 (fun e => HQB.out bch (.inr (.inr e.symm)) rfl)
  have q5 := cell_grown hg8 r5 (fun e => HQB.out bch (.inr (.inr e.symm)) rfl)
  have q6 := cell_grown hg8 r6 (fun e => HQB.out bch (.inr (.inr e.symm)) rfl)
  have q7 := cell_grown hg8 r7 (fun e => HQB.out bch (.inr (.inr e.symm)) rfl)
  have q8 := cell_grown hg8 r8 (fun e => HQB.out bch (.inr (.inr e.symm)) rfl)
  have q9 := cell_grown hg8 r9 (fun e => HQB.out bch (.inr (.inr e.symm)) rfl)
  have q10 := cell_grown hg8 r10 (fun e => HQB.out bch (.inr (.inr e.symm)) rfl)
  have q11 := cell_grown hg8 r11 (fun e => HQB.out bch (.inr (.inr e.symm)) rfl)
  have z8 : w10.frozen? ⟨b, 1, none⟩ = false := frozen_of ((hg8.block b HD9.out.at_.lt (Kd.R_ne HD9.out.at_.rw HD9.out.at_.blk (by decide))).trans HD9.out.at_.blk) 1
  clear ho hb8 hg8 hat8
  refine hK.out _ _ ⟨q0, q1, q2, q3, q4, q5, q6, q7, q8, q9, q10, q11⟩ (fun hHeld => ?_)
  clear hK K
  refine norm_ (a' := ?_) ?_ ?_
  rotate_left
  ·
   show Act.put _ (some 197) _ = _
   simp only [Act.put, Own.na, Own.nz, Own.ns, i64_w, i32_w]
   rfl
  refine pure_ (i := 8) (N := some 198) (v := ?_) (a' := ?_) (Own.bm 11 511) rfl rfl (by kernel_rfl) (fun _ _ _ h => h) (Or.inl ⟨by rfl, ?_⟩) ?_ ?_
  rotate_left;intro w';go_simp;with_reducible rfl;rotate_left;simp only [Act.put, Own.na, Own.nz, Own.ns, i64_w, i32_w];rfl
  refine pure_ (i := 9) (N := some 199) (v := ?_) (a' := ?_) (Own.bm 11 1023) rfl rfl (by kernel_rfl) (fun _ _ _ h => h) (Or.inl ⟨by rfl, ?_⟩) ?_ ?_
  rotate_left;intro w';go_simp;with_reducible rfl;rotate_left;simp only [Act.put, Own.na, Own.nz, Own.ns, i64_w, i32_w];rfl
  refine last_ (i := 10) (N := none) (Own.bm 11 2047) rfl rfl (by kernel_rfl) (by decide) (fun K hK => ?_)
  refine skip_ (w1 := ?_) (by rfl) rfl ?_ ?_
  rotate_left
  ·
   go_simp
   rfl
  refine hK.out _ _ ?_
  clear hK K
  refine done_ (by kernel_rfl) ?_
  have HA11 := Lib.hid (rwaits HD9.out.at_ HO10.out HG10.out)
  have HS11 := Lib.hid ((Still.below HB9.out (ROwns b vb (.slice Aw d.waits.length cw))).trans (still_rwaits (v1 := .slice A2 N c2) b vb HG10.out HA10.out (.slice A2 N c2)))
  clear HO10 HG10 HA10 z8 HX9 HB9 r0 r1 r2 r3 r4 r5 r6 r7 r8 r9 r10 r11 q0 q1 q2 q3 q4 q5 q6 q7 q8 q9 q10 q11
  go_wp2
  go_ret
  rw [HL.out, HP.out]
  exact ⟨rfl, vb, _, HA11.out, HS11.out⟩
 have v0 : (ee == 0) = false := beq_eq_false_iff_ne.2 he
 have v1 : (ee != 0) = true := bne_iff_ne.2 he
 have HL := Lib.hid (own_real nzR d 4 pa tp (kd, mo, ui, gi, mt, at_, da) (by decide) (by rw [← HR.out]; exact he))
 rw [← HR.out] at HL
 clear he
 go_wp2
 go_ret
 rw [HL.out]
 exact rpost_same HD3.out HB3.out
end Go.Proofs.YtibmfjacfbpfgaaGreatDoor.ROwnMeta
namespace Go.Proofs.YtibmfjacfbpfgaaGreatDoor.ROwnFlush
open Go.RowKit YtibmfjacfbpfgaaGreatDoorW.PrintWords YtibmfjacfbpfgaaGreatDoorW.PrintLast YtibmfjacfbpfgaaGreatDoorW.PrintMore NameLaw NameWalk NameRef NameUse YtibmfjacfbpfgaaGreatDoor.Item Own NodeRes TreeLaw TreeRef SortIns SortSwap FillLaw DiffLaw RealLaw RealKeep KeepLaw OpLaw OpKeep DkLaw OwnLeaf DSmall DSync RLead RReal RDisk RSum ROwnA
theorem flush_still {W W1 : World} {b : Nat} {vb vw v1 : Value} (hb : Below W.heap.size W W1) (hn : ∀ k, v1.ownBlock = some k → W.heap.size ≤ k) (u : Value) : Still W ((W1.setCell ⟨b, 0, none⟩ v1).setCell ⟨b, 1, none⟩ u) (ROwns b vb vw) (ROwns b v1 (.slice none 0 0)) := by
 have h := (Still.below hb (ROwns b vb vw)).trans ((still_rset W1 b 0 v1 vb vw).trans (still_rset _ b 1 u vb vw))
 refine ⟨h.os, h.tape, h.output, h.size, h.block, fun k hk => ?_⟩
 rcases hk with e | e | e
 ·
  exact .inl (.inl e)
 ·
  exact .inr (hn k e)
 cases e
set_option maxHeartbeats 8000000 in
set_option maxRecDepth 100000 in
theorem rown_flush (W0 W : World) (b : Nat) (vb vw : Value) (d : Dk) (m : Nat) (hD : Doc W0 W b vb vw d m) (hm : m ≤ 700000) (pa tp : ByteArray) (kd mo ui gi mt at_ : Int) (da : ByteArray) (hp : pa.size ≤ 10000) (htp : tp.size ≤ 10000) (hda : da.size ≤ 100000) (hmo : 0 ≤ mo) :
  Calls Tryz.prog 84 #[.pointer (some ⟨b, 0, none⟩), .agg #[.int .i64 6, .string pa, .string tp, .int .i64 kd, .int .u32 mo, .int .u32 ui, .int .u32 gi, .int .i64 mt, .int .i64 at_, .string da]] W (RPost W0 W b vb vw (ownD nzR d 6 pa tp (kd, mo, ui, gi, mt, at_, da))) := by
 obtain ⟨Aw, cw, rfl⟩ := Kd.R_slice hD.at_.rw
 have hsh := hD.bnd.shows
 have hlow := hD.low.size
 have HT := Lib.hid (doc_tree (Trees.shows hD.trees) hsh.1 (by omega) hsh.2)
 have hlen := hsh.1
 have hb1 := below_one W (.cells #[.int .i64 6, .string pa, .string tp, .int .i64 kd, .int .u32 mo, .int .u32 ui, .int .u32 gi, .int .i64 mt, .int .i64 at_, .string da] 91)
 have HD1 := Lib.hid (doc_below hD hb1)
 have HB1 := Lib.hid hb1
 have HK1 := Lib.hid (heap_new W (.cells #[.int .i64 6, .string pa, .string tp, .int .i64 kd, .int .u32 mo, .int .u32 ui, .int .u32 gi, .int .i64 mt, .int .i64 at_, .string da] 91))
 have HSH := Lib.hid (rshows_any W0 (W.alloc (.cells #[.int .i64 6, .string pa, .string tp, .int .i64 kd, .int .u32 mo, .int .u32 ui, .int .u32 gi, .int .i64 mt, .int .i64 at_, .string da] 91)) b vb (.slice Aw d.waits.length cw) d m HD1.out (by omega))
 clear hb1 hD hsh
 go_enter Tryz.func84, Tryz.ntmps84
 go_wp2_with fail
 generalize W.alloc (.cells #[.int .i64 6, .string pa, .string tp, .int .i64 kd, .int .u32 mo, .int .u32 ui, .int .u32 gi, .int .i64 mt, .int .i64 at_, .string da] 91) = W1 at *
 obtain ⟨bc, hbc⟩ : ∃ bc, bc = W.heap.size := ⟨_, rfl⟩
 rw [← hbc] at HK1 ⊢
 have hbc2 : W.heap.size ≤ bc := by omega
 clear hbc
 refine HSH.out.mono ?_
 rintro e w2 ⟨v2, rfl, hr2, hb2⟩
 obtain ⟨A, c, hv⟩ := Kd.R_slice hr2
 subst hv
 have HC := Lib.hid (Kd.R_reads' hr2).2.2
 have HB2 := Lib.hid (below_next HB1.out hb2)
 have HK2 := Lib.hid ((hb2.block bc (Array.getElem?_eq_some_iff.1 HK1.out).1).trans HK1.out)
 have HD2 := Lib.hid (doc_below HD1.out hb2)
 have HR2 := Lib.hid (Kd.R_lower hr2 HB1.out.size)
 clear hr2 hb2 HSH HD1 HB1 HK1
 obtain ⟨k0, k1, k2, k3, k4, k5, k6, k7, k8, k9⟩ := Own.cs10 HK2.out
 have c0 := HD2.out.at_.c0
 have y0 := HD2.out.at_.fz 0
 have HA3 := Lib.hid (rbase HD2.out.at_ (rnew_row hlow HR2.out))
 have c1 := HA3.out.c1
 have y1 := HA3.out.fz 1
 have HA4 := Lib.hid (rwaits HA3.out (Kd.R_nil chK 121 _ W0.heap.size (fun _ => True)) (grown_refl _ _))
 have HNB := Lib.hid (Kd.R_base HR2.out)
 have HS4 := Lib.hid (flush_still (b := b) (vb := vb) (vw := .slice Aw d.waits.length cw) HB2.out HNB.out (.slice none 0 0))
 have HL := Lib.hid (own_flush nzR d pa tp (kd, mo, ui, gi, mt, at_, da))
 clear HA3 HK2 HC HNB
 go_wp2
 go_ret
 rw [HL.out]
 exact ⟨rfl, _, _, HA4.out, HS4.out⟩
end Go.Proofs.YtibmfjacfbpfgaaGreatDoor.ROwnFlush
namespace Go.Proofs.YtibmfjacfbpfgaaGreatDoor.ROwnSync
open Go.RowKit YtibmfjacfbpfgaaGreatDoorW.PrintWords YtibmfjacfbpfgaaGreatDoorW.PrintLast YtibmfjacfbpfgaaGreatDoorW.PrintMore NameLaw NameWalk NameRef NameUse YtibmfjacfbpfgaaGreatDoor.Item Own NodeRes TreeLaw TreeRef SortIns SortSwap FillLaw DiffLaw RealLaw RealKeep KeepLaw OpLaw OpKeep DkLaw OwnLeaf DSmall DSync RLead RReal RDisk RSum ROwnA
theorem rch_get {W : World} {n g c N k : Nat} {ok : Nat → Prop} {l : List Chg} {x : Chg} (h : chK.R 121 W n ok (.slice (some ⟨g, 0, none⟩) N c) l) (hx : l[k]? = some x) : ∀ j u, (cellsC x)[j]? = some u → W.cell? ⟨g, k * 11 + j, none⟩ = some u := by
 intro j u hu
 obtain ⟨hN, _, hC⟩ := Kd.R_reads' h
 subst hN
 obtain ⟨ad, e, hc⟩ := hC.2.2 (by have := (List.getElem?_eq_some_iff.1 hx).1; omega)
 injection e with e
 subst e
 obtain ⟨cs, hl, hK, hcell⟩ := hc k _ hx
 have := chK_K hK
 subst this
 have h := hcell j u hu
 rw [Addr.add_lit, Nat.zero_add] at h
 exact h
theorem rch_put {W : World} {n g c k j : Nat} {ok : Nat → Prop} {s : List Chg} {u : Value} {y : Chg} (h : chK.R 121 W n ok (.slice (some ⟨g, 0, none⟩) s.length c) s) (hk : k < s.length) (hj : j < 11) (hy : cellsC y = (cellsC s[k]).set j u) :
  chK.R 121 (W.setCell ⟨g, k * 11 + j, none⟩ u) n ok (.slice (some ⟨g, 0, none⟩) s.length c) (s.set k y) ∧ W.grownBy (W.setCell ⟨g, k * 11 + j, none⟩ u) (some g) ∧ W.frozen? ⟨g, k * 11 + j, none⟩ = false := by
 obtain ⟨hok, inner, ⟨hil, hown⟩, hr⟩ := h
 rcases hown with ⟨e, _⟩ | ⟨g', cap, cur, e, hb, hh, h1, h2, h3, h4⟩
 ·
  cases e
 injection e with e1 e2 e3
 injection e1 with e1
 injection e1 with e1
 subst e1 e3
 have hil' : inner.length = s.length * 11 := hil
 have hbase : ∀ q p, s[q]? = some p → (inner.drop (q * 11)).take 11 = cellsC p := fun q p hq => chK_K (chK.K_of_M (hr.2 q p hq))
 refine ⟨⟨hok, inner.set (k * 11 + j) u, ⟨?_, .inr ⟨g, c, cur.setIfInBounds (k * 11 + j) u, by rw [List.length_set], hb, blk_set hh _ u, by rw [List.length_set]; exact h1, h2, by rw [Array.size_setIfInBounds]; exact h3, ?_⟩⟩, ?_, fun q p hq => ?_⟩, set_grown _ _ _ _, frozen_of hh _⟩
 ·
  rw [List.length_set, List.length_set]; exact hil
 ·
  have h4' : cur.toList.take (s.length * 11) = inner := h4
  show (cur.setIfInBounds (k * 11 + j) u).toList.take ((s.set k y).length * 11) = _
  rw [List.length_set, Array.toList_setIfInBounds, List.take_set, h4']
 ·
  show (inner.set (k * 11 + j) u).length = (s.set k y).length * 11
  rw [List.length_set, List.length_set]; exact hil'
 have hcs : ((inner.set (k * 11 + j) u).drop (q * 11)).take 11 = cellsC p := by
  rw [List.getElem?_set] at hq
  by_cases hqk : k = q
  ·
   subst hqk
   rw [if_pos rfl, if_pos hk] at hq
   injection hq with hq
   subst hq
   rw [List.drop_set, if_neg (by omega), List.take_set, show k * 11 + j - k * 11 = j by omega, hbase k _ (List.getElem?_eq_getElem hk), hy]
  rw [if_neg hqk] at hq
  rw [← hbase q p hq, List.drop_set]
  by_cases hlt : k * 11 + j < q * 11
  ·
   rw [if_pos hlt]
  rw [if_neg hlt, List.take_set, List.set_eq_of_length_le (by rw [List.length_take]; omega)]
 show chK.M _ _ _ p (((inner.set (k * 11 + j) u).drop (q * 11)).take 11)
 rw [hcs]
 exact chK_MC _ _ _ _
theorem rch_form {W : World} {n N : Nat} {A : Option Addr} {c : Nat} {s : List Chg} (h : chK.R 121 W n (fun _ => True) (.slice A N c) s) (hs : 0 < s.length) : N = s.length ∧ ∃ g, A = some ⟨g, 0, none⟩ := by
 obtain ⟨inner, hl, hown⟩ := Kd.R_own h
 rcases hown with ⟨hv, h0⟩ | ⟨g, cap, cur, hv, hb, hh, _⟩
 ·
  injection hv with e1 e2 e3
  omega
 injection hv with e1 e2 e3
 exact ⟨e2, g, e1⟩
theorem own_fzr {W : World} {n g c N : Nat} {ok : Nat → Prop} {l : List Chg} (h : chK.R 121 W n ok (.slice (some ⟨g, 0, none⟩) N c) l) (j : Nat) : W.frozen? ⟨g, j, none⟩ = false := by
 obtain ⟨cells, hc⟩ := Kd.R_typed h g rfl
 exact frozen_of hc j
theorem rrow {W W1 : World} {n b g N c : Nat} {vb : Value} {d : Dk} {q0 q1 : List Chg} (h : RAt W n b vb (.slice (some ⟨g, 0, none⟩) N c) { d with waits := q0 }) (hr : chK.R 121 W1 n (fun _ => True) (.slice (some ⟨g, 0, none⟩) N c) q1) (hg : W.grownBy W1 (some g)) : RAt W1 n b vb (.slice (some ⟨g, 0, none⟩) N c) { d with waits := q1 } := by
 have hbn : some b ≠ (Value.slice (some ⟨g, 0, none⟩) N c).ownBlock := Kd.R_ne h.rw h.blk (by decide)
 have hne : ∀ k, some g = some k → some k ≠ vb.ownBlock := fun k hk => by
  obtain ⟨inner, ho⟩ := Kd.R_own h.rw
  obtain ⟨cells, hc⟩ := own_typed ho k hk
  exact Kd.R_ne h.rb hc (by decide)
 exact ⟨(hg.block b h.lt hbn).trans h.blk, Kd.R_grown2 h.rb rfl hg hne, hr, h.nb⟩
set_option maxHeartbeats 8000000 in
set_option maxRecDepth 100000 in
theorem rown_sync (W0 W : World) (b : Nat) (vb vw : Value) (d : Dk) (m : Nat) (hD : Doc W0 W b vb vw d m) (hm : m ≤ 700000) (pa tp : ByteArray) (kd mo ui gi mt at_ : Int) (da : ByteArray) (hp : pa.size ≤ 10000) (htp : tp.size ≤ 10000) (hda : da.size ≤ 100000) (hmo : 0 ≤ mo) :
  Calls Tryz.prog 84 #[.pointer (some ⟨b, 0, none⟩), .agg #[.int .i64 5, .string pa, .string tp, .int .i64 kd, .int .u32 mo, .int .u32 ui, .int .u32 gi, .int .i64 mt, .int .i64 at_, .string da]] W (RPost W0 W b vb vw (ownD nzR d 5 pa tp (kd, mo, ui, gi, mt, at_, da))) := by
 obtain ⟨Aw, cw, rfl⟩ := Kd.R_slice hD.at_.rw
 have hsh := hD.bnd.shows
 have HT := Lib.hid (doc_tree (Trees.shows hD.trees) hsh.1 (by omega) hsh.2)
 have hlen := hsh.1
 have hb1 := below_one W (.cells #[.int .i64 5, .string pa, .string tp, .int .i64 kd, .int .u32 mo, .int .u32 ui, .int .u32 gi, .int .i64 mt, .int .i64 at_, .string da] 91)
 have HD1 := Lib.hid (doc_below hD hb1)
 have HB1 := Lib.hid hb1
 have HK1 := Lib.hid (heap_new W (.cells #[.int .i64 5, .string pa, .string tp, .int .i64 kd, .int .u32 mo, .int .u32 ui, .int .u32 gi, .int .i64 mt, .int .i64 at_, .string da] 91))
 have HSH := Lib.hid (rshows_any W0 (W.alloc (.cells #[.int .i64 5, .string pa, .string tp, .int .i64 kd, .int .u32 mo, .int .u32 ui, .int .u32 gi, .int .i64 mt, .int .i64 at_, .string da] 91)) b vb (.slice Aw d.waits.length cw) d m HD1.out (by omega))
 clear hb1 hD hsh
 go_enter Tryz.func84, Tryz.ntmps84
 go_wp2_with fail
 generalize W.alloc (.cells #[.int .i64 5, .string pa, .string tp, .int .i64 kd, .int .u32 mo, .int .u32 ui, .int .u32 gi, .int .i64 mt, .int .i64 at_, .string da] 91) = W1 at *
 obtain ⟨bc, hbc⟩ : ∃ bc, bc = W.heap.size := ⟨_, rfl⟩
 rw [← hbc] at HK1 ⊢
 have hbc2 : W.heap.size ≤ bc := by omega
 clear hbc
 refine HSH.out.mono ?_
 rintro e w2 ⟨v2, rfl, hr2, hb2⟩
 obtain ⟨A, c, hv⟩ := Kd.R_slice hr2
 subst hv
 have HC := Lib.hid (Kd.R_reads' hr2).2.2
 have HB2 := Lib.hid (below_next HB1.out hb2)
 have HK2 := Lib.hid ((hb2.block bc (Array.getElem?_eq_some_iff.1 HK1.out).1).trans HK1.out)
 have HD2 := Lib.hid (doc_below HD1.out hb2)
 have HR2 := Lib.hid (Kd.R_lower hr2 HB1.out.size)
 clear hr2 hb2 HSH HD1 HB1 HK1
 obtain ⟨k0, k1, k2, k3, k4, k5, k6, k7, k8, k9⟩ := Own.cs10 HK2.out
 have HRL := Lib.hid (rreal_any d.shows HT.out w2 A c HC.out pa (by omega))
 obtain ⟨R, hR⟩ : ∃ R, R = realP d.shows pa := ⟨_, rfl⟩
 rw [← hR] at HRL
 have HR := Lib.hid hR
 clear hR
 obtain ⟨p, ee⟩ := R
 simp only at HRL
 go_wp2_with fail
 refine HRL.out.mono ?_
 rintro e w3 ⟨rfl, hb3⟩
 have HB3 := Lib.hid (below_next HB2.out hb3)
 have HK3 := Lib.hid ((hb3.block bc (Array.getElem?_eq_some_iff.1 HK2.out).1).trans HK2.out)
 have HD3 := Lib.hid (doc_below HD2.out hb3)
 have HC3 := Lib.hid (Kd.C_below HC.out hb3)
 clear hb3 HRL HK2 HC HB2 HD2 HR2 k0 k1 k2 k3 k4 k5 k6 k7 k8 k9
 obtain ⟨k0, k1, k2, k3, k4, k5, k6, k7, k8, k9⟩ := Own.cs10 HK3.out
 by_cases he : ee = 0
 ·
  subst he
  have HE := Lib.hid (show (realP d.shows pa).2 = 0 by rw [← HR.out])
  have HP := Lib.hid (show (realP d.shows pa).1 = p by rw [← HR.out])
  have HKD := Lib.hid (rkind_any d.shows A c p w3 HC3.out)
  have hps : p.size ≤ 9000 := by have := real_tiny (Trees.shows HD3.out.trees) HE.out; rw [HP.out] at this; exact this
  obtain ⟨kk, hkk⟩ : ∃ kk, kk = kindOf d.shows p := ⟨_, rfl⟩
  rw [← hkk] at HKD
  have HKK := Lib.hid (show kindOf d.shows (realP d.shows pa).1 = kk by rw [HP.out]; exact hkk.symm)
  clear hkk
  go_wp2_with fail
  refine HKD.out.mono ?_
  rintro e w4 ⟨rfl, hb4⟩
  have HB4 := Lib.hid (below_next HB3.out hb4)
  have HK4 := Lib.hid ((hb4.block bc (Array.getElem?_eq_some_iff.1 HK3.out).1).trans HK3.out)
  have HD4 := Lib.hid (doc_below HD3.out hb4)
  have HC4 := Lib.hid (Kd.C_below HC3.out hb4)
  clear hb4 HKD HK3 HC3 HB3 HD3 k0 k1 k2 k3 k4 k5 k6 k7 k8 k9
  obtain ⟨k0, k1, k2, k3, k4, k5, k6, k7, k8, k9⟩ := Own.cs10 HK4.out
  have hb5 := below_one w4 (.cells #[.int .i64 kd, .int .u32 (mo % 4096), .int .u32 ui, .int .u32 gi, .int .i64 mt, .int .i64 at_, .string da] 34)
  have hb6 := below_one (w4.alloc (.cells #[.int .i64 kd, .int .u32 (mo % 4096), .int .u32 ui, .int .u32 gi, .int .i64 mt, .int .i64 at_, .string da] 34)) (.cells #[.int .i64 5, .string p, .string ⟨#[]⟩, .int .i64 kd, .int .u32 (mo % 4096), .int .u32 ui, .int .u32 gi, .int .i64 mt, .int .i64 at_, .string da, .bool false] 121)
  have HN5 := Lib.hid (heap_new w4 (.cells #[.int .i64 kd, .int .u32 (mo % 4096), .int .u32 ui, .int .u32 gi, .int .i64 mt, .int .i64 at_, .string da] 34))
  have HK5 := Lib.hid ((hb5.block bc (Array.getElem?_eq_some_iff.1 HK4.out).1).trans HK4.out)
  have HSZ5 : (w4.alloc (.cells #[.int .i64 kd, .int .u32 (mo % 4096), .int .u32 ui, .int .u32 gi, .int .i64 mt, .int .i64 at_, .string da] 34)).heap.size = w4.heap.size + 1 := Array.size_push _
  have HX6 := Lib.hid (heap_new (w4.alloc (.cells #[.int .i64 kd, .int .u32 (mo % 4096), .int .u32 ui, .int .u32 gi, .int .i64 mt, .int .i64 at_, .string da] 34)) (.cells #[.int .i64 5, .string p, .string ⟨#[]⟩, .int .i64 kd, .int .u32 (mo % 4096), .int .u32 ui, .int .u32 gi, .int .i64 mt, .int .i64 at_, .string da, .bool false] 121))
  rw [HSZ5] at HX6
  have HN6 := Lib.hid ((hb6.block w4.heap.size (Array.getElem?_eq_some_iff.1 HN5.out).1).trans HN5.out)
  have HK6 := Lib.hid ((hb6.block bc (Array.getElem?_eq_some_iff.1 HK5.out).1).trans HK5.out)
  have HB5 := Lib.hid (below_next HB4.out hb5)
  have HB6 := Lib.hid (below_next HB5.out hb6)
  have HD6 := Lib.hid (doc_below (doc_below HD4.out hb5) hb6)
  have HC6 := Lib.hid (Kd.C_below (Kd.C_below HC4.out hb5) hb6)
  have HQB : Hid (∀ k, ROwns b vb (.slice Aw d.waits.length cw) k → k ≠ w4.heap.size + 1) := Lib.hid (fun k hk => Nat.ne_of_lt (Nat.lt_succ_of_lt (rowns_lt HD4.out.at_ k hk)))
  have HNX := Lib.hid (show w4.heap.size ≠ w4.heap.size + 1 by omega)
  clear HSZ5
  have z1 := frozen_of HN5.out 1
  clear hb5 hb6 HB4 HD4 HC4
  have a0 : (w4.alloc (.cells #[.int .i64 kd, .int .u32 (mo % 4096), .int .u32 ui, .int .u32 gi, .int .i64 mt, .int .i64 at_, .string da] 34)).cell? ⟨bc, 0, none⟩ = some (.int .i64 5) := by rw [cell_of HK5.out]; rfl
  obtain ⟨n0, n1, n2, n3, n4, n5, n6⟩ := Own.cs7 HN5.out
  have b0 : ((w4.alloc (.cells #[.int .i64 kd, .int .u32 (mo % 4096), .int .u32 ui, .int .u32 gi, .int .i64 mt, .int .i64 at_, .string da] 34)).alloc (.cells #[.int .i64 5, .string p, .string ⟨#[]⟩, .int .i64 kd, .int .u32 (mo % 4096), .int .u32 ui, .int .u32 gi, .int .i64 mt, .int .i64 at_, .string da, .bool false] 121)).cell? ⟨bc, 0, none⟩ = some (.int .i64 5) := by rw [cell_of HK6.out]; rfl
  have b1 : ((w4.alloc (.cells #[.int .i64 kd, .int .u32 (mo % 4096), .int .u32 ui, .int .u32 gi, .int .i64 mt, .int .i64 at_, .string da] 34)).alloc (.cells #[.int .i64 5, .string p, .string ⟨#[]⟩, .int .i64 kd, .int .u32 (mo % 4096), .int .u32 ui, .int .u32 gi, .int .i64 mt, .int .i64 at_, .string da, .bool false] 121)).cell? ⟨bc, 1, none⟩ = some (.string pa) := by rw [cell_of HK6.out]; rfl
  have b2 : ((w4.alloc (.cells #[.int .i64 kd, .int .u32 (mo % 4096), .int .u32 ui, .int .u32 gi, .int .i64 mt, .int .i64 at_, .string da] 34)).alloc (.cells #[.int .i64 5, .string p, .string ⟨#[]⟩, .int .i64 kd, .int .u32 (mo % 4096), .int .u32 ui, .int .u32 gi, .int .i64 mt, .int .i64 at_, .string da, .bool false] 121)).cell? ⟨bc, 2, none⟩ = some (.string tp) := by rw [cell_of HK6.out]; rfl
  have o0 : ((w4.alloc (.cells #[.int .i64 kd, .int .u32 (mo % 4096), .int .u32 ui, .int .u32 gi, .int .i64 mt, .int .i64 at_, .string da] 34)).alloc (.cells #[.int .i64 5, .string p, .string ⟨#[]⟩, .int .i64 kd, .int .u32 (mo % 4096), .int .u32 ui, .int .u32 gi, .int .i64 mt, .int .i64 at_, .string da, .bool false] 121)).cell? ⟨w4.heap.size, 0, none⟩ = some (.int .i64 kd) := by rw [cell_of HN6.out]; rfl
  have o6 : ((w4.alloc (.cells #[.int .i64 kd, .int .u32 (mo % 4096), .int .u32 ui, .int .u32 gi, .int .i64 mt, .int .i64 at_, .string da] 34)).alloc (.cells #[.int .i64 5, .string p, .string ⟨#[]⟩, .int .i64 kd, .int .u32 (mo % 4096), .int .u32 ui, .int .u32 gi, .int .i64 mt, .int .i64 at_, .string da, .bool false] 121)).cell? ⟨w4.heap.size, 6, none⟩ = some (.string da) := by rw [cell_of HN6.out]; rfl
  have c2 : ((w4.alloc (.cells #[.int .i64 kd, .int .u32 (mo % 4096), .int .u32 ui, .int .u32 gi, .int .i64 mt, .int .i64 at_, .string da] 34)).alloc (.cells #[.int .i64 5, .string p, .string ⟨#[]⟩, .int .i64 kd, .int .u32 (mo % 4096), .int .u32 ui, .int .u32 gi, .int .i64 mt, .int .i64 at_, .string da, .bool false] 121)).cell? ⟨(w4.heap.size + 1), 2, none⟩ = some (.string ⟨#[]⟩) := by rw [cell_of HX6.out]; rfl
  by_cases hkk : kk = 0
  ·
   subst hkk
   have HL := Lib.hid (sync_none nzR d pa tp (kd, mo, ui, gi, mt, at_, da) HE.out HKK.out)
   go_wp2
   go_ret
   rw [HL.out]
   exact rpost_same HD6.out HB6.out
  have q0 : (kk == 0) = false := beq_eq_false_iff_ne.2 hkk
  have q1 : (kk != 0) = true := bne_iff_ne.2 hkk
  by_cases hk2 : kk = 2
  ·
   have q2 : (kk == 2) = true := by rw [hk2]; rfl
   have q3 : (kk != 2) = false := by rw [hk2]; rfl
   have HK2 := Lib.hid (HKK.out.trans hk2)
   clear hk2
   have d1 := HD6.out.at_.c1
   go_wp2
   generalize ((w4.alloc (.cells #[.int .i64 kd, .int .u32 (mo % 4096), .int .u32 ui, .int .u32 gi, .int .i64 mt, .int .i64 at_, .string da] 34)).alloc (.cells #[.int .i64 5, .string p, .string ⟨#[]⟩, .int .i64 kd, .int .u32 (mo % 4096), .int .u32 ui, .int .u32 gi, .int .i64 mt, .int .i64 at_, .string da, .bool false] 121)) = W6 at *
   generalize w4.heap.size + 1 = bch at *
   generalize w4.heap.size = bn at *
   have HLC := Lib.hid HD6.out.bnd.waits
   have hlw := HD6.out.bnd.len
   have HDW0 : Hid (RAt W6 W0.heap.size b vb (.slice Aw d.waits.length cw) { d with waits := sureTo p d.waits 0 }) := Lib.hid HD6.out.at_
   have HS0 := Lib.hid (Still.below HB6.out (ROwns b vb (.slice Aw d.waits.length cw)))
   clear d1
   go_loopw [103] (fun i wr => ∃ k : Nat, k ≤ d.waits.length ∧ i = .int .i64 k ∧ Hid (RAt wr W0.heap.size b vb (.slice Aw d.waits.length cw) { d with waits := sureTo p d.waits k }) ∧ Hid (Still W wr (ROwns b vb (.slice Aw d.waits.length cw)) (ROwns b vb (.slice Aw d.waits.length cw)))) (fun i _ => d.waits.length - (intOf i).toNat)
   case atStart => exact ⟨0, Nat.zero_le _, rfl, HDW0, HS0⟩
   clear HDW0 HS0
   obtain ⟨k, hk, rfl, HDR, HSR⟩ := hrel
   by_cases hlt : k < d.waits.length
   ·
    have hltI : (k : Int) < (d.waits.length : Int) := by omega
    have hln := sureTo_len p d.waits k
    have hrw : chK.R 121 wr W0.heap.size (fun _ => True) (.slice Aw d.waits.length cw) (sureTo p d.waits k) := HDR.out.rw
    obtain ⟨-, g, hg⟩ := rch_form hrw (by omega)
    subst hg
    have hget := rch_get hrw (sureTo_at (p := p) hlt)
    have hki := (HLC.out _ (List.getElem_mem hlt)).kind
    obtain ⟨x, hx⟩ : ∃ x, x = d.waits[k] := ⟨_, rfl⟩
    rw [← hx] at hget hki
    have HXK := Lib.hid hx
    clear hx
    obtain ⟨ck, pa2, tp2, ⟨kd2, mo2, ui2, gi2, mt2, at2, da2⟩, su⟩ := x
    have hki : 0 ≤ ck := by unfold kindsOk at hki; simp only at hki; omega
    have e0 : wr.cell? ⟨g, k * 11 + 0, none⟩ = some (.int .i64 ck) := hget 0 _ rfl
    have e1 : wr.cell? ⟨g, k * 11 + 1, none⟩ = some (.string pa2) := hget 1 _ rfl
    have e10 : wr.cell? ⟨g, k * 11 + 10, none⟩ = some (.bool su) := hget 10 _ rfl
    rw [Nat.add_zero] at e0
    clear hget
    have c1 := HDR.out.c1
    have HSQ := Lib.hid (sureTo_step (p := p) hlt)
    rw [← HXK.out] at HSQ
    have z10 := own_fzr hrw (k * 11 + 10)
    have hset : ∀ (y : Chg), cellsC y = (cellsC (ck, pa2, tp2, (kd2, mo2, ui2, gi2, mt2, at2, da2), su)).set 10 (.bool true) → Hid (RAt (wr.setCell ⟨g, k * 11 + 10, none⟩ (.bool true)) W0.heap.size b vb (.slice (some ⟨g, 0, none⟩) d.waits.length cw) { d with waits := (sureTo p d.waits k).set k y }) ∧ Hid (Still W (wr.setCell ⟨g, k * 11 + 10, none⟩ (.bool true)) (ROwns b vb (.slice (some ⟨g, 0, none⟩) d.waits.length cw)) (ROwns b vb (.slice (some ⟨g, 0, none⟩) d.waits.length cw))) := fun y hy => by
     have hp := rch_put (k := k) (j := 10) (u := .bool true) (y := y) (s := sureTo p d.waits k) (c := cw) (by rw [hln]; exact hrw) (by omega) (by decide) (by rw [hy]; congr 1; have := sureTo_at (p := p) hlt; rw [← HXK.out] at this; rw [(List.getElem?_eq_some_iff.1 this).2])
     rw [hln] at hp
     exact ⟨Lib.hid (rrow HDR.out hp.1 hp.2.1), Lib.hid (HSR.out.trans (Still.grown hp.2.1 (fun j e => .inr (.inr e)) (fun j h => .inl h)))⟩
    have HSET := Lib.hid hset
    clear hset hrw hln
    by_cases hpa : pa2 = p
    ·
     subst hpa
     have qp : (pa2.toList == pa2.toList) = true := by simp
     by_cases hk0 : ck < 2
     ·
      have hsu : sureC pa2 (ck, pa2, tp2, (kd2, mo2, ui2, gi2, mt2, at2, da2), su) = (ck, pa2, tp2, (kd2, mo2, ui2, gi2, mt2, at2, da2), true) := by unfold sureC; rw [if_pos ⟨rfl, by simp only; omega⟩]
      rw [hsu] at HSQ
      have HY := HSET.out (ck, pa2, tp2, (kd2, mo2, ui2, gi2, mt2, at2, da2), true) rfl
      have HYD := HY.1
      have HYS := HY.2
      rw [← HSQ.out] at HYD
      clear HY HSET HSQ hsu
      go_wp2
      go_roundw
      case rel => exact ⟨k + 1, by omega, by go_num, HYD, HYS⟩
      case measure => simp [intOf]; omega
     have hsu : sureC pa2 (ck, pa2, tp2, (kd2, mo2, ui2, gi2, mt2, at2, da2), su) = (ck, pa2, tp2, (kd2, mo2, ui2, gi2, mt2, at2, da2), su) := by unfold sureC; rw [if_neg (by rintro ⟨a1, a2⟩; first | exact absurd a1 (by assumption) | (simp only at a2; omega))]
     rw [hsu] at HSQ
     have HSQ2 : Hid (sureTo pa2 d.waits (k + 1) = sureTo pa2 d.waits k) := Lib.hid (HSQ.out.trans (by have := sureTo_at (p := pa2) hlt; rw [← HXK.out] at this; obtain ⟨q1, q2⟩ := List.getElem?_eq_some_iff.1 this; exact (congrArg (List.set _ k) q2.symm).trans (List.set_getElem_self q1)))
     rw [← HSQ2.out] at HDR
     clear HSET HSQ HSQ2 hsu
     go_wp2
     go_roundw
     case rel => exact ⟨k + 1, by omega, by go_num, HDR, HSR⟩
     case measure => simp [intOf]; omega
    have qp : (pa2.toList == p.toList) = false := by rw [toList_inj]; exact decide_eq_false hpa
    have hsu : sureC p (ck, pa2, tp2, (kd2, mo2, ui2, gi2, mt2, at2, da2), su) = (ck, pa2, tp2, (kd2, mo2, ui2, gi2, mt2, at2, da2), su) := by unfold sureC; rw [if_neg (by rintro ⟨a1, a2⟩; first | exact absurd a1 (by assumption) | (simp only at a2; omega))]
    rw [hsu] at HSQ
    have HSQ2 : Hid (sureTo p d.waits (k + 1) = sureTo p d.waits k) := Lib.hid (HSQ.out.trans (by have := sureTo_at (p := p) hlt; rw [← HXK.out] at this; obtain ⟨q1, q2⟩ := List.getElem?_eq_some_iff.1 this; exact (congrArg (List.set _ k) q2.symm).trans (List.set_getElem_self q1)))
    rw [← HSQ2.out] at HDR
    clear HSET HSQ HSQ2 hsu
    go_wp2
    go_roundw
    case rel => exact ⟨k + 1, by omega, by go_num, HDR, HSR⟩
    case measure => simp [intOf]; omega
   have hj2 : ¬ (k : Int) < (d.waits.length : Int) := by omega
   have hsq : sureTo p d.waits k = d.waits.map (sureC p) := by unfold sureTo; rw [List.take_of_length_le (by omega), List.drop_of_length_le (by omega), List.append_nil]
   rw [hsq] at HDR
   have HL := Lib.hid (sync_ok nzR d pa tp (kd, mo, ui, gi, mt, at_, da) HE.out HK2.out)
   clear hsq
   go_wp2
   go_ret
   rw [HL.out, HP.out]
   exact ⟨rfl, vb, _, HDR.out, HSR.out⟩
  have q2 : (kk == 2) = false := beq_eq_false_iff_ne.2 hk2
  have q3 : (kk != 2) = true := bne_iff_ne.2 hk2
  have HL := Lib.hid (sync_kind nzR d pa tp (kd, mo, ui, gi, mt, at_, da) HE.out (by rw [HKK.out]; exact hkk) (by rw [HKK.out]; exact hk2))
  go_wp2
  go_ret
  rw [HL.out]
  exact rpost_same HD6.out HB6.out
 have v0 : (ee == 0) = false := beq_eq_false_iff_ne.2 he
 have v1 : (ee != 0) = true := bne_iff_ne.2 he
 have HL := Lib.hid (own_real nzR d 5 pa tp (kd, mo, ui, gi, mt, at_, da) (by decide) (by rw [← HR.out]; exact he))
 rw [← HR.out] at HL
 clear he
 go_wp2
 go_ret
 rw [HL.out]
 exact rpost_same HD3.out HB3.out
end Go.Proofs.YtibmfjacfbpfgaaGreatDoor.ROwnSync
namespace Go.Proofs.YtibmfjacfbpfgaaGreatDoor.ROwnRemove
open Go.RowKit YtibmfjacfbpfgaaGreatDoorW.PrintWords YtibmfjacfbpfgaaGreatDoorW.PrintLast YtibmfjacfbpfgaaGreatDoorW.PrintMore NameLaw NameWalk NameRef NameUse YtibmfjacfbpfgaaGreatDoor.Item Own NodeRes TreeLaw TreeRef SortIns SortSwap FillLaw DiffLaw RealLaw RealKeep KeepLaw OpLaw OpKeep DkLaw OwnLeaf DSmall DSync RLead RReal RDisk RSum ROwnA
theorem par_none {s : List It} {p : ByteArray} (h : isParent (s.take s.length) p = false) : ¬ isParent s p = true := by rw [List.take_length] at h; rw [h]; decide
theorem par_some {s : List It} {p : ByteArray} {k : Nat} (hk : k < s.length) (h : parentT s[k].1 = p) : isParent s p = true := by
 unfold isParent
 rw [List.any_eq_true]
 exact ⟨s[k], List.getElem_mem hk, decide_eq_true h⟩
theorem par_next {s : List It} {p : ByteArray} {k : Nat} (hk : k < s.length) (h : isParent (s.take k) p = false) (h2 : ¬ parentT s[k].1 = p) : isParent (s.take (k + 1)) p = false := by
 unfold isParent at h ⊢
 rw [List.take_succ_eq_append_getElem hk, List.any_append, h]
 simp [h2]
theorem par_next2 {w w1 : World} (HB : Hid (Below w.heap.size w w1)) (a : ByteArray) (ha : a.size ≤ 100000) : Calls Tryz.prog 69 #[.string a] w1 fun e w' => e = .returned (.string (parentT a)) ∧ Hid (Below w.heap.size w w') :=
 (PNm.r_Parent.calls (a.size + 1) a _ w1 (rparent_f _ a ha (by omega))).mono fun _ _ h => ⟨h.1, Lib.hid (by obtain ⟨n, rfl⟩ := h.2; exact pw_below_drewN HB.out n)⟩
set_option maxHeartbeats 8000000 in
set_option maxRecDepth 100000 in
theorem rown_remove (W0 W : World) (b : Nat) (vb vw : Value) (d : Dk) (m : Nat) (hD : Doc W0 W b vb vw d m) (hm : m ≤ 700000) (pa tp : ByteArray) (kd mo ui gi mt at_ : Int) (da : ByteArray) (hp : pa.size ≤ 10000) (htp : tp.size ≤ 10000) (hda : da.size ≤ 100000) (hmo : 0 ≤ mo) :
  Calls Tryz.prog 84 #[.pointer (some ⟨b, 0, none⟩), .agg #[.int .i64 2, .string pa, .string tp, .int .i64 kd, .int .u32 mo, .int .u32 ui, .int .u32 gi, .int .i64 mt, .int .i64 at_, .string da]] W (RPost W0 W b vb vw (ownD nzR d 2 pa tp (kd, mo, ui, gi, mt, at_, da))) := by
 obtain ⟨Aw, cw, rfl⟩ := Kd.R_slice hD.at_.rw
 have hsh := hD.bnd.shows
 have HT := Lib.hid (doc_tree (Trees.shows hD.trees) hsh.1 (by omega) hsh.2)
 have hlen := hsh.1
 have hb1 := below_one W (.cells #[.int .i64 2, .string pa, .string tp, .int .i64 kd, .int .u32 mo, .int .u32 ui, .int .u32 gi, .int .i64 mt, .int .i64 at_, .string da] 91)
 have HD1 := Lib.hid (doc_below hD hb1)
 have HB1 := Lib.hid hb1
 have HK1 := Lib.hid (heap_new W (.cells #[.int .i64 2, .string pa, .string tp, .int .i64 kd, .int .u32 mo, .int .u32 ui, .int .u32 gi, .int .i64 mt, .int .i64 at_, .string da] 91))
 have HSH := Lib.hid (rshows_any W0 (W.alloc (.cells #[.int .i64 2, .string pa, .string tp, .int .i64 kd, .int .u32 mo, .int .u32 ui, .int .u32 gi, .int .i64 mt, .int .i64 at_, .string da] 91)) b vb (.slice Aw d.waits.length cw) d m HD1.out (by omega))
 clear hb1 hD hsh
 go_enter Tryz.func84, Tryz.ntmps84
 go_wp2_with fail
 generalize W.alloc (.cells #[.int .i64 2, .string pa, .string tp, .int .i64 kd, .int .u32 mo, .int .u32 ui, .int .u32 gi, .int .i64 mt, .int .i64 at_, .string da] 91) = W1 at *
 obtain ⟨bc, hbc⟩ : ∃ bc, bc = W.heap.size := ⟨_, rfl⟩
 rw [← hbc] at HK1 ⊢
 have hbc2 : W.heap.size ≤ bc := by omega
 clear hbc
 refine HSH.out.mono ?_
 rintro e w2 ⟨v2, rfl, hr2, hb2⟩
 obtain ⟨A, c, hv⟩ := Kd.R_slice hr2
 subst hv
 have HC := Lib.hid (Kd.R_reads' hr2).2.2
 have HB2 := Lib.hid (below_next HB1.out hb2)
 have HK2 := Lib.hid ((hb2.block bc (Array.getElem?_eq_some_iff.1 HK1.out).1).trans HK1.out)
 have HD2 := Lib.hid (doc_below HD1.out hb2)
 have HR2 := Lib.hid (Kd.R_lower hr2 HB1.out.size)
 clear hr2 hb2 HSH HD1 HB1 HK1
 obtain ⟨k0, k1, k2, k3, k4, k5, k6, k7, k8, k9⟩ := Own.cs10 HK2.out
 have HRL := Lib.hid (rreal_any d.shows HT.out w2 A c HC.out pa (by omega))
 obtain ⟨R, hR⟩ : ∃ R, R = realP d.shows pa := ⟨_, rfl⟩
 rw [← hR] at HRL
 have HR := Lib.hid hR
 clear hR
 obtain ⟨p, ee⟩ := R
 simp only at HRL
 go_wp2_with fail
 refine HRL.out.mono ?_
 rintro e w3 ⟨rfl, hb3⟩
 have HB3 := Lib.hid (below_next HB2.out hb3)
 have HK3 := Lib.hid ((hb3.block bc (Array.getElem?_eq_some_iff.1 HK2.out).1).trans HK2.out)
 have HD3 := Lib.hid (doc_below HD2.out hb3)
 have HC3 := Lib.hid (Kd.C_below HC.out hb3)
 clear hb3 HRL HK2 HC HB2 HD2 HR2 k0 k1 k2 k3 k4 k5 k6 k7 k8 k9
 obtain ⟨k0, k1, k2, k3, k4, k5, k6, k7, k8, k9⟩ := Own.cs10 HK3.out
 by_cases he : ee = 0
 ·
  subst he
  have HE := Lib.hid (show (realP d.shows pa).2 = 0 by rw [← HR.out])
  have HP := Lib.hid (show (realP d.shows pa).1 = p by rw [← HR.out])
  have HKD := Lib.hid (rkind_any d.shows A c p w3 HC3.out)
  have hps : p.size ≤ 9000 := by have := real_tiny (Trees.shows HD3.out.trees) HE.out; rw [HP.out] at this; exact this
  obtain ⟨kk, hkk⟩ : ∃ kk, kk = kindOf d.shows p := ⟨_, rfl⟩
  rw [← hkk] at HKD
  have HKK := Lib.hid (show kindOf d.shows (realP d.shows pa).1 = kk by rw [HP.out]; exact hkk.symm)
  clear hkk
  go_wp2_with fail
  refine HKD.out.mono ?_
  rintro e w4 ⟨rfl, hb4⟩
  have HB4 := Lib.hid (below_next HB3.out hb4)
  have HK4 := Lib.hid ((hb4.block bc (Array.getElem?_eq_some_iff.1 HK3.out).1).trans HK3.out)
  have HD4 := Lib.hid (doc_below HD3.out hb4)
  have HC4 := Lib.hid (Kd.C_below HC3.out hb4)
  clear hb4 HKD HK3 HC3 HB3 HD3 k0 k1 k2 k3 k4 k5 k6 k7 k8 k9
  obtain ⟨k0, k1, k2, k3, k4, k5, k6, k7, k8, k9⟩ := Own.cs10 HK4.out
  have hb5 := below_one w4 (.cells #[.int .i64 kd, .int .u32 (mo % 4096), .int .u32 ui, .int .u32 gi, .int .i64 mt, .int .i64 at_, .string da] 34)
  have hb6 := below_one (w4.alloc (.cells #[.int .i64 kd, .int .u32 (mo % 4096), .int .u32 ui, .int .u32 gi, .int .i64 mt, .int .i64 at_, .string da] 34)) (.cells #[.int .i64 2, .string p, .string ⟨#[]⟩, .int .i64 kd, .int .u32 (mo % 4096), .int .u32 ui, .int .u32 gi, .int .i64 mt, .int .i64 at_, .string da, .bool false] 121)
  have HN5 := Lib.hid (heap_new w4 (.cells #[.int .i64 kd, .int .u32 (mo % 4096), .int .u32 ui, .int .u32 gi, .int .i64 mt, .int .i64 at_, .string da] 34))
  have HK5 := Lib.hid ((hb5.block bc (Array.getElem?_eq_some_iff.1 HK4.out).1).trans HK4.out)
  have HSZ5 : (w4.alloc (.cells #[.int .i64 kd, .int .u32 (mo % 4096), .int .u32 ui, .int .u32 gi, .int .i64 mt, .int .i64 at_, .string da] 34)).heap.size = w4.heap.size + 1 := Array.size_push _
  have HX6 := Lib.hid (heap_new (w4.alloc (.cells #[.int .i64 kd, .int .u32 (mo % 4096), .int .u32 ui, .int .u32 gi, .int .i64 mt, .int .i64 at_, .string da] 34)) (.cells #[.int .i64 2, .string p, .string ⟨#[]⟩, .int .i64 kd, .int .u32 (mo % 4096), .int .u32 ui, .int .u32 gi, .int .i64 mt, .int .i64 at_, .string da, .bool false] 121))
  rw [HSZ5] at HX6
  have HN6 := Lib.hid ((hb6.block w4.heap.size (Array.getElem?_eq_some_iff.1 HN5.out).1).trans HN5.out)
  have HK6 := Lib.hid ((hb6.block bc (Array.getElem?_eq_some_iff.1 HK5.out).1).trans HK5.out)
  have HB5 := Lib.hid (below_next HB4.out hb5)
  have HB6 := Lib.hid (below_next HB5.out hb6)
  have HD6 := Lib.hid (doc_below (doc_below HD4.out hb5) hb6)
  have HC6 := Lib.hid (Kd.C_below (Kd.C_below HC4.out hb5) hb6)
  have HQB : Hid (∀ k, ROwns b vb (.slice Aw d.waits.length cw) k → k ≠ w4.heap.size + 1) := Lib.hid (fun k hk => Nat.ne_of_lt (Nat.lt_succ_of_lt (rowns_lt HD4.out.at_ k hk)))
  have HNX := Lib.hid (show w4.heap.size ≠ w4.heap.size + 1 by omega)
  clear HSZ5
  have z1 := frozen_of HN5.out 1
  clear hb5 hb6 HB4 HD4 HC4
  have a0 : (w4.alloc (.cells #[.int .i64 kd, .int .u32 (mo % 4096), .int .u32 ui, .int .u32 gi, .int .i64 mt, .int .i64 at_, .string da] 34)).cell? ⟨bc, 0, none⟩ = some (.int .i64 2) := by rw [cell_of HK5.out]; rfl
  obtain ⟨n0, n1, n2, n3, n4, n5, n6⟩ := Own.cs7 HN5.out
  have b0 : ((w4.alloc (.cells #[.int .i64 kd, .int .u32 (mo % 4096), .int .u32 ui, .int .u32 gi, .int .i64 mt, .int .i64 at_, .string da] 34)).alloc (.cells #[.int .i64 2, .string p, .string ⟨#[]⟩, .int .i64 kd, .int .u32 (mo % 4096), .int .u32 ui, .int .u32 gi, .int .i64 mt, .int .i64 at_, .string da, .bool false] 121)).cell? ⟨bc, 0, none⟩ = some (.int .i64 2) := by rw [cell_of HK6.out]; rfl
  have b1 : ((w4.alloc (.cells #[.int .i64 kd, .int .u32 (mo % 4096), .int .u32 ui, .int .u32 gi, .int .i64 mt, .int .i64 at_, .string da] 34)).alloc (.cells #[.int .i64 2, .string p, .string ⟨#[]⟩, .int .i64 kd, .int .u32 (mo % 4096), .int .u32 ui, .int .u32 gi, .int .i64 mt, .int .i64 at_, .string da, .bool false] 121)).cell? ⟨bc, 1, none⟩ = some (.string pa) := by rw [cell_of HK6.out]; rfl
  have b2 : ((w4.alloc (.cells #[.int .i64 kd, .int .u32 (mo % 4096), .int .u32 ui, .int .u32 gi, .int .i64 mt, .int .i64 at_, .string da] 34)).alloc (.cells #[.int .i64 2, .string p, .string ⟨#[]⟩, .int .i64 kd, .int .u32 (mo % 4096), .int .u32 ui, .int .u32 gi, .int .i64 mt, .int .i64 at_, .string da, .bool false] 121)).cell? ⟨bc, 2, none⟩ = some (.string tp) := by rw [cell_of HK6.out]; rfl
  have o0 : ((w4.alloc (.cells #[.int .i64 kd, .int .u32 (mo % 4096), .int .u32 ui, .int .u32 gi, .int .i64 mt, .int .i64 at_, .string da] 34)).alloc (.cells #[.int .i64 2, .string p, .string ⟨#[]⟩, .int .i64 kd, .int .u32 (mo % 4096), .int .u32 ui, .int .u32 gi, .int .i64 mt, .int .i64 at_, .string da, .bool false] 121)).cell? ⟨w4.heap.size, 0, none⟩ = some (.int .i64 kd) := by rw [cell_of HN6.out]; rfl
  have o6 : ((w4.alloc (.cells #[.int .i64 kd, .int .u32 (mo % 4096), .int .u32 ui, .int .u32 gi, .int .i64 mt, .int .i64 at_, .string da] 34)).alloc (.cells #[.int .i64 2, .string p, .string ⟨#[]⟩, .int .i64 kd, .int .u32 (mo % 4096), .int .u32 ui, .int .u32 gi, .int .i64 mt, .int .i64 at_, .string da, .bool false] 121)).cell? ⟨w4.heap.size, 6, none⟩ = some (.string da) := by rw [cell_of HN6.out]; rfl
  have c2 : ((w4.alloc (.cells #[.int .i64 kd, .int .u32 (mo % 4096), .int .u32 ui, .int .u32 gi, .int .i64 mt, .int .i64 at_, .string da] 34)).alloc (.cells #[.int .i64 2, .string p, .string ⟨#[]⟩, .int .i64 kd, .int .u32 (mo % 4096), .int .u32 ui, .int .u32 gi, .int .i64 mt, .int .i64 at_, .string da, .bool false] 121)).cell? ⟨(w4.heap.size + 1), 2, none⟩ = some (.string ⟨#[]⟩) := by rw [cell_of HX6.out]; rfl
  by_cases hkk : kk = 0
  ·
   subst hkk
   have HL := Lib.hid (remove_none nzR d pa tp (kd, mo, ui, gi, mt, at_, da) HE.out HKK.out)
   go_wp2
   go_ret
   rw [HL.out]
   exact rpost_same HD6.out HB6.out
  have q0 : (kk == 0) = false := beq_eq_false_iff_ne.2 hkk
  have q1 : (kk != 0) = true := bne_iff_ne.2 hkk
  go_wp2
  generalize ((w4.alloc (.cells #[.int .i64 kd, .int .u32 (mo % 4096), .int .u32 ui, .int .u32 gi, .int .i64 mt, .int .i64 at_, .string da] 34)).alloc (.cells #[.int .i64 2, .string p, .string ⟨#[]⟩, .int .i64 kd, .int .u32 (mo % 4096), .int .u32 ui, .int .u32 gi, .int .i64 mt, .int .i64 at_, .string da, .bool false] 121)) = W6 at *
  generalize w4.heap.size + 1 = bch at *
  generalize w4.heap.size = bn at *
  have HW0 := Lib.hid (Below.refl W6.heap.size W6)
  have hI0 : Hid (isParent (d.shows.take 0) p = false) := Lib.hid rfl
  go_loopw [152] (fun i wr => ∃ k : Nat, k ≤ d.shows.length ∧ i = .int .i64 k ∧ Hid (isParent (d.shows.take k) p = false) ∧ Hid (Below W6.heap.size W6 wr)) (fun i _ => d.shows.length - (intOf i).toNat)
  case atStart => exact ⟨0, Nat.zero_le _, rfl, hI0, HW0⟩
  clear hI0 HW0
  obtain ⟨k, hk, rfl, HIP, HBW⟩ := hrel
  by_cases hlt : k < d.shows.length
  ·
   have hltI : (k : Int) < (d.shows.length : Int) := by omega
   obtain ⟨ad, rfl, e0, e1, e2, e3, e4, e5, e6, e7⟩ := item_at (Kd.C_below HC6.out HBW.out) hlt
   have hxs := HT.out.paths _ (List.getElem_mem hlt)
   have HNX2 := Lib.hid (fun h => par_next hlt HIP.out h)
   have HSM := Lib.hid (fun h => par_some (p := p) hlt h)
   generalize d.shows[k] = x at *
   obtain ⟨x0, x1, x2, x3, x4, x5, x6, x7⟩ := x
   simp only at e0 e1 e2 e3 e4 e5 e6 e7 hxs
   have HI1 := Lib.hid (heap_new wr (.cells #[.string x0, .int .i64 x1, .int .u32 x2, .int .u32 x3, .int .u32 x4, .int .i64 x5, .int .i64 x6, .string x7] 77))
   have HB1 := Lib.hid (below_next HBW.out (below_one wr (.cells #[.string x0, .int .i64 x1, .int .u32 x2, .int .u32 x3, .int .u32 x4, .int .i64 x5, .int .i64 x6, .string x7] 77)))
   have n0 : (wr.alloc (.cells #[.string x0, .int .i64 x1, .int .u32 x2, .int .u32 x3, .int .u32 x4, .int .i64 x5, .int .i64 x6, .string x7] 77)).cell? ⟨wr.heap.size, 0, none⟩ = some (.string x0) := by rw [cell_of HI1.out]; rfl
   clear HBW HIP
   go_wp2_with fail
   refine (par_next2 HB1 x0 (by omega)).mono ?_
   rintro e w7 ⟨rfl, HB7⟩
   by_cases hq : parentT x0 = p
   ·
    have q5 : ((parentT x0).toList == p.toList) = true := by rw [toList_inj]; exact decide_eq_true hq
    have HL := Lib.hid (remove_full nzR d pa tp (kd, mo, ui, gi, mt, at_, da) HE.out (by rw [HKK.out]; exact hkk) (by rw [HP.out]; exact HSM.out hq))
    have HBR := Lib.hid (below_next HB6.out HB7.out)
    have HDR := Lib.hid (doc_below HD6.out HB7.out)
    clear hq
    go_wp2
    go_ret
    rw [HL.out]
    exact rpost_same HDR.out HBR.out
   have q5 : ((parentT x0).toList == p.toList) = false := by rw [toList_inj]; exact decide_eq_false hq
   have HI2 := Lib.hid (HNX2.out hq)
   clear HNX2 HSM hq
   go_wp2
   go_roundw
   case rel => exact ⟨k + 1, by omega, by go_num, HI2, HB7⟩
   case measure => simp [intOf]; omega
  have hj2 : ¬ (k : Int) < (d.shows.length : Int) := by omega
  have hkl : k = d.shows.length := by omega
  subst hkl
  have HIN := Lib.hid (par_none HIP.out)
  have HBR := Lib.hid (below_next HB6.out HBW.out)
  have HDR := Lib.hid (doc_below HD6.out HBW.out)
  have HXR := Lib.hid ((HBW.out.block bch (Array.getElem?_eq_some_iff.1 HX6.out).1).trans HX6.out)
  have HL := Lib.hid (remove_ok nzR d pa tp (kd, mo, ui, gi, mt, at_, da) HE.out (by rw [HKK.out]; exact hkk) (by rw [HP.out]; exact HIN.out))
  go_wp2
  have HD9 : Hid (Doc W0 wr.drew b vb (.slice Aw d.waits.length cw) d m) := Lib.hid (doc_below HDR.out (below_drew (Below.refl _ _)))
  have HB9 : Hid (Below W.heap.size W wr.drew) := Lib.hid (below_drew HBR.out)
  have HX9 : Hid (wr.drew.heap[bch]? = some (.cells #[.int .i64 2, .string p, .string ⟨#[]⟩, .int .i64 kd, .int .u32 (mo % 4096), .int .u32 ui, .int .u32 gi, .int .i64 mt, .int .i64 at_, .string da, .bool false] 121 (0, 0))) := Lib.hid HXR.out
  have r0 := HD9.out.at_.c1
  obtain ⟨r1, r2, r3, r4, r5, r6, r7, r8, r9, r10, r11⟩ := Own.cs11 HX9.out
  refine start_ (n := 11) (S := fun w' => w'.cell? ⟨b, 1, none⟩ = some (.slice Aw d.waits.length cw) ∧ w'.cell? ⟨bch, 0, none⟩ = some (.int .i64 2) ∧ w'.cell? ⟨bch, 1, none⟩ = some (.string p) ∧ w'.cell? ⟨bch, 2, none⟩ = some (.string ⟨#[]⟩) ∧ w'.cell? ⟨bch, 3, none⟩ = some (.int .i64 kd) ∧ w'.cell? ⟨bch, 4, none⟩ = some (.int .u32 (mo % 4096)) ∧ w'.cell? ⟨bch, 5, none⟩ = some (.int .u32 ui) ∧ w'.cell? ⟨bch, 6, none⟩ = some (.int .u32 gi) ∧ w'.cell? ⟨bch, 7, none⟩ = some (.int .i64 mt) ∧ w'.cell? ⟨bch, 8, none⟩ = some (.int .i64 at_) ∧ w'.cell? ⟨bch, 9, none⟩ = some (.string da) ∧ w'.cell? ⟨bch, 10, none⟩ = some (.bool false)) (ds := [10]) (Own.bm 11 0) (by kernel_rfl) rfl rfl ⟨r0, r1, r2, r3, r4, r5, r6, r7, r8, r9, r10, r11⟩ (fun hHeld => ?_)
  generalize wr.drew = W9 at *
  refine pure_ (i := 0) (N := some 190) (v := ?_) (a' := ?_) (Own.bm 11 1) rfl rfl (by kernel_rfl) (fun _ _ _ h => h) (Or.inl ⟨by rfl, ?_⟩) ?_ ?_
  rotate_left;intro w';go_simp;with_reducible rfl;rotate_left;simp only [Act.put, Own.na, Own.nz, Own.ns, i64_w, i32_w];rfl
  refine pure_ (i := 1) (N := some 191) (v := ?_) (a' := ?_) (Own.bm 11 3) rfl rfl (by kernel_rfl) (fun _ _ _ h => h) (Or.inl ⟨by rfl, ?_⟩) ?_ ?_
  rotate_left;intro w';go_simp;with_reducible rfl;rotate_left;simp only [Act.put, Own.na, Own.nz, Own.ns, i64_w, i32_w];rfl
  refine pure_ (i := 2) (N := some 192) (v := ?_) (a' := ?_) (Own.bm 11 7) rfl rfl (by kernel_rfl) (fun _ _ _ h => h) (Or.inl ⟨by rfl, ?_⟩) ?_ ?_
  rotate_left;intro w';go_simp;with_reducible rfl;rotate_left;simp only [Act.put, Own.na, Own.nz, Own.ns, i64_w, i32_w];rfl
  refine pure_ (i := 3) (N := some 193) (v := ?_) (a' := ?_) (Own.bm 11 15) rfl rfl (by kernel_rfl) (fun _ _ _ h => h) (Or.inl ⟨by rfl, ?_⟩) ?_ ?_
  rotate_left;intro w';go_simp;with_reducible rfl;rotate_left;simp only [Act.put, Own.na, Own.nz, Own.ns, i64_w, i32_w];rfl
  refine take_ (i := 4) (N := some 194) (v := ?_) (a' := ?_) (Own.bm 11 31) rfl rfl (by kernel_rfl) (fun _ _ _ h => h) (Or.inl ⟨by rfl, ?_⟩) hHeld ?_ ?_
  rotate_left;rintro w' ⟨s0, s1, s2, s3, s4, s5, s6, s7, s8, s9, s10, s11⟩;go_simp;with_reducible rfl;rotate_left;simp only [Act.put, Own.na, Own.nz, Own.ns, i64_w, i32_w];rfl
  refine take_ (i := 5) (N := some 195) (v := ?_) (a' := ?_) (Own.bm 11 63) rfl rfl (by kernel_rfl) (fun _ _ _ h => h) (Or.inl ⟨by rfl, ?_⟩) hHeld ?_ ?_
  rotate_left;rintro w' ⟨s0, s1, s2, s3, s4, s5, s6, s7, s8, s9, s10, s11⟩;go_simp;with_reducible rfl;rotate_left;simp only [Act.put, Own.na, Own.nz, Own.ns, i64_w, i32_w];rfl
  refine one_ (i := 6) (N := some 196) (Own.bm 11 127) rfl rfl (by kernel_rfl) (by decide) (fun K hK => ?_)
  refine value_ (w1 := ?_) (v := ?_) (by rfl) rfl ?_ ?_
  rotate_left 2
  ·
   go_simp
   constructor
   ·
    rfl
   rfl
  refine hK.out _ _ ⟨pw_cell_below (below_one _ _) r0, pw_cell_below (below_one _ _) r1, pw_cell_below (below_one _ _) r2, pw_cell_below (below_one _ _) r3, pw_cell_below (below_one _ _) r4, pw_cell_below (below_one _ _) r5, pw_cell_below (below_one _ _) r6, pw_cell_below (below_one _ _) r7, pw_cell_below (below_one _ _) r8, pw_cell_below (below_one _ _) r9, pw_cell_below (below_one _ _) r10, pw_cell_below (below_one _ _) r11⟩ (fun hHeld => ?_)
  clear hK K
  refine norm_ (a' := ?_) ?_ ?_
  rotate_left
  ·
   show Act.put _ (some 196) _ = _
   simp only [Act.put, Own.na, Own.nz, Own.ns, i64_w, i32_w]
   rfl
  refine one_ (i := 7) (N := some 197) (Own.bm 11 255) rfl rfl (by kernel_rfl) (by decide) (fun K hK => ?_)
  refine Kd.R_append_step chK (w0 := W9) W0.heap.size (by rfl) (.tmp 194) (.tmp 196) 85 121 (.agg #[.int .i64 0, .string ByteArray.empty, .string ByteArray.empty, .int .i64 0, .int .u32 0, .int .u32 0, .int .u32 0, .int .i64 0, .int .i64 0, .string ByteArray.empty, .bool false]) 104 rfl Tryz.underlying85 infoRCh rfl (by decide) (by decide) _ d.waits (2, p, ⟨#[]⟩, (kd, masked mo, ui, gi, mt, at_, da), false) [.int .i64 2, .string p, .string ⟨#[]⟩, .int .i64 kd, .int .u32 (mo % 4096), .int .u32 ui, .int .u32 gi, .int .i64 mt, .int .i64 at_, .string da, .bool false] (fun _ => True) (fun _ => False) rfl rfl ?aP (fun _ hk => hk.elim) ?aF ?aO ?aB ?aS ?aL ?_
  (case aP => exact chK_M _ _ _ _ _ _ _ _ _ _ _ _ _ _)
  (case aB => exact Below.refl _ _)
  (case aF => exact (fun _ _ => trivial))
  (case aO => exact HD9.out.at_.rw)
  (case aS => exact HD9.out.low.size)
  (case aL => have := HD9.out.bnd.len; omega)
  intro v1 w10 ho hb8 hg8 hat8
  obtain ⟨A2, c2, hv2⟩ := Kd.R_slice ho
  generalize (d.waits ++ ([(2, p, ⟨#[]⟩, (kd, masked mo, ui, gi, mt, at_, da), false)] : List Chg)).length = N at hv2
  subst hv2
  have HO10 := Lib.hid ho
  have HG10 := Lib.hid hg8
  have HA10 := Lib.hid hat8
  have q0 := cell_grown hg8 r0 (Kd.R_ne HD9.out.at_.rw HD9.out.at_.blk (by decide))
  have q1 := cell_grown hg8 r1 (fun e => HQB.out bch (.inr (.inr e.symm)) rfl)
  have q2 := cell_grown hg8 r2 (fun e => HQB.out bch (.inr (.inr e.symm)) rfl)
  have q3 := cell_grown hg8 r3 (fun e => HQB.out bch (.inr (.inr e.symm)) rfl)
  have q4 := cell_grown hg8 r4 (fun e => HQB.out bch (.inr (.inr e.symm)) rfl)
  have q5 := cell_grown hg8 r5 (fun e => HQB.out bch (.inr (.inr e.symm)) rfl)
  have q6 := cell_grown hg8 r6 (fun e => HQB.out bch (.inr (.inr e.symm)) rfl)
  have q7 := cell_grown hg8 r7 (fun e => HQB.out bch (.inr (.inr e.symm)) rfl)
  have q8 := cell_grown hg8 r8 (fun e => HQB.out bch (.inr (.inr e.symm)) rfl)
  have q9 := cell_grown hg8 r9 (fun e => HQB.out bch (.inr (.inr e.symm)) rfl)
  have q10 := cell_grown hg8 r10 (fun e => HQB.out bch (.inr (.inr e.symm)) rfl)
  have q11 := cell_grown hg8 r11 (fun e => HQB.out bch (.inr (.inr e.symm)) rfl)
  have z8 : w10.frozen? ⟨b, 1, none⟩ = false := frozen_of ((hg8.block b HD9.out.at_.lt (Kd.R_ne HD9.out.at_.rw HD9.out.at_.blk (by decide))).trans HD9.out.at_.blk) 1
  clear ho hb8 hg8 hat8
  refine hK.out _ _ ⟨q0, q1, q2, q3, q4, q5, q6, q7, q8, q9, q10, q11⟩ (fun hHeld => ?_)
  clear hK K
  refine norm_ (a' := ?_) ?_ ?_
  rotate_left
  ·
   show Act.put _ (some 197) _ = _
   simp only [Act.put, Own.na, Own.nz, Own.ns, i64_w, i32_w]
   rfl
  refine pure_ (i := 8) (N := some 198) (v := ?_) (a' := ?_) (Own.bm 11 511) rfl rfl (by kernel_rfl) (fun _ _ _ h => h) (Or.inl ⟨by rfl, ?_⟩) ?_ ?_
  rotate_left;intro w';go_simp;with_reducible rfl;rotate_left;simp only [Act.put, Own.na, Own.nz, Own.ns, i64_w, i32_w];rfl
  refine pure_ (i := 9) (N := some 199) (v := ?_) (a' := ?_) (Own.bm 11 1023) rfl rfl (by kernel_rfl) (fun _ _ _ h => h) (Or.inl ⟨by rfl, ?_⟩) ?_ ?_
  rotate_left;intro w';go_simp;with_reducible rfl;rotate_left;simp only [Act.put, Own.na, Own.nz, Own.ns, i64_w, i32_w];rfl
  refine last_ (i := 10) (N := none) (Own.bm 11 2047) rfl rfl (by kernel_rfl) (by decide) (fun K hK => ?_)
  refine skip_ (w1 := ?_) (by rfl) rfl ?_ ?_
  rotate_left
  ·
   go_simp
   rfl
  refine hK.out _ _ ?_
  clear hK K
  refine done_ (by kernel_rfl) ?_
  have HA11 := Lib.hid (rwaits HD9.out.at_ HO10.out HG10.out)
  have HS11 := Lib.hid ((Still.below HB9.out (ROwns b vb (.slice Aw d.waits.length cw))).trans (still_rwaits (v1 := .slice A2 N c2) b vb HG10.out HA10.out (.slice A2 N c2)))
  clear HO10 HG10 HA10 z8 HX9 HB9 r0 r1 r2 r3 r4 r5 r6 r7 r8 r9 r10 r11 q0 q1 q2 q3 q4 q5 q6 q7 q8 q9 q10 q11
  go_wp2
  go_ret
  rw [HL.out, HP.out]
  exact ⟨rfl, vb, _, HA11.out, HS11.out⟩
 have v0 : (ee == 0) = false := beq_eq_false_iff_ne.2 he
 have v1 : (ee != 0) = true := bne_iff_ne.2 he
 have HL := Lib.hid (own_real nzR d 2 pa tp (kd, mo, ui, gi, mt, at_, da) (by decide) (by rw [← HR.out]; exact he))
 rw [← HR.out] at HL
 clear he
 go_wp2
 go_ret
 rw [HL.out]
 exact rpost_same HD3.out HB3.out
end Go.Proofs.YtibmfjacfbpfgaaGreatDoor.ROwnRemove
namespace Go.Proofs.YtibmfjacfbpfgaaGreatDoor.ROwnRename
open Go.RowKit YtibmfjacfbpfgaaGreatDoorW.PrintWords YtibmfjacfbpfgaaGreatDoorW.PrintLast YtibmfjacfbpfgaaGreatDoorW.PrintMore NameLaw NameWalk NameRef NameUse YtibmfjacfbpfgaaGreatDoor.Item Own NodeRes TreeLaw TreeRef SortIns SortSwap FillLaw DiffLaw RealLaw RealKeep KeepLaw OpLaw OpKeep DkLaw OwnLeaf DSmall DSync RLead RReal RDisk RSum ROwnA
theorem doc_far {W0 W : World} {b g m : Nat} {vb vw : Value} {d : Dk} (h : Doc W0 W b vb vw d m) (hn : ∀ k, ROwns b vb vw k → k ≠ g) (hg : W0.heap.size ≤ g) (j : Nat) (u : Value) : Doc W0 (W.setCell ⟨g, j, none⟩ u) b vb vw d m :=
 ⟨below_of_grown h.low (Nat.le_refl _) (set_grown W g j u) (fun x hx => by injection hx with hx; omega), h.at_.still (S := fun k => k = g) (T := fun k => k = g) (Still.grown (set_grown W g j u) (fun k e => by injection e with e; exact e.symm) (fun k e => .inl e)) hn, h.trees, h.bnd⟩
set_option maxHeartbeats 8000000 in
set_option maxRecDepth 100000 in
theorem rown_rename (W0 W : World) (b : Nat) (vb vw : Value) (d : Dk) (m : Nat) (hD : Doc W0 W b vb vw d m) (hm : m ≤ 700000) (pa tp : ByteArray) (kd mo ui gi mt at_ : Int) (da : ByteArray) (hp : pa.size ≤ 10000) (htp : tp.size ≤ 10000) (hda : da.size ≤ 100000) (hmo : 0 ≤ mo) :
  Calls Tryz.prog 84 #[.pointer (some ⟨b, 0, none⟩), .agg #[.int .i64 3, .string pa, .string tp, .int .i64 kd, .int .u32 mo, .int .u32 ui, .int .u32 gi, .int .i64 mt, .int .i64 at_, .string da]] W (RPost W0 W b vb vw (ownD nzR d 3 pa tp (kd, mo, ui, gi, mt, at_, da))) := by
 obtain ⟨Aw, cw, rfl⟩ := Kd.R_slice hD.at_.rw
 have hsh := hD.bnd.shows
 have HT := Lib.hid (doc_tree (Trees.shows hD.trees) hsh.1 (by omega) hsh.2)
 have hlen := hsh.1
 have hb1 := below_one W (.cells #[.int .i64 3, .string pa, .string tp, .int .i64 kd, .int .u32 mo, .int .u32 ui, .int .u32 gi, .int .i64 mt, .int .i64 at_, .string da] 91)
 have HD1 := Lib.hid (doc_below hD hb1)
 have HB1 := Lib.hid hb1
 have HK1 := Lib.hid (heap_new W (.cells #[.int .i64 3, .string pa, .string tp, .int .i64 kd, .int .u32 mo, .int .u32 ui, .int .u32 gi, .int .i64 mt, .int .i64 at_, .string da] 91))
 have HSH := Lib.hid (rshows_any W0 (W.alloc (.cells #[.int .i64 3, .string pa, .string tp, .int .i64 kd, .int .u32 mo, .int .u32 ui, .int .u32 gi, .int .i64 mt, .int .i64 at_, .string da] 91)) b vb (.slice Aw d.waits.length cw) d m HD1.out (by omega))
 clear hb1 hD hsh
 go_enter Tryz.func84, Tryz.ntmps84
 go_wp2_with fail
 generalize W.alloc (.cells #[.int .i64 3, .string pa, .string tp, .int .i64 kd, .int .u32 mo, .int .u32 ui, .int .u32 gi, .int .i64 mt, .int .i64 at_, .string da] 91) = W1 at *
 obtain ⟨bc, hbc⟩ : ∃ bc, bc = W.heap.size := ⟨_, rfl⟩
 rw [← hbc] at HK1 ⊢
 have hbc2 : W.heap.size ≤ bc := by omega
 clear hbc
 refine HSH.out.mono ?_
 rintro e w2 ⟨v2, rfl, hr2, hb2⟩
 obtain ⟨A, c, hv⟩ := Kd.R_slice hr2
 subst hv
 have HC := Lib.hid (Kd.R_reads' hr2).2.2
 have HB2 := Lib.hid (below_next HB1.out hb2)
 have HK2 := Lib.hid ((hb2.block bc (Array.getElem?_eq_some_iff.1 HK1.out).1).trans HK1.out)
 have HD2 := Lib.hid (doc_below HD1.out hb2)
 have HR2 := Lib.hid (Kd.R_lower hr2 HB1.out.size)
 clear hr2 hb2 HSH HD1 HB1 HK1
 obtain ⟨k0, k1, k2, k3, k4, k5, k6, k7, k8, k9⟩ := Own.cs10 HK2.out
 have HRL := Lib.hid (rreal_any d.shows HT.out w2 A c HC.out pa (by omega))
 obtain ⟨R, hR⟩ : ∃ R, R = realP d.shows pa := ⟨_, rfl⟩
 rw [← hR] at HRL
 have HR := Lib.hid hR
 clear hR
 obtain ⟨p, ee⟩ := R
 simp only at HRL
 go_wp2_with fail
 refine HRL.out.mono ?_
 rintro e w3 ⟨rfl, hb3⟩
 have HB3 := Lib.hid (below_next HB2.out hb3)
 have HK3 := Lib.hid ((hb3.block bc (Array.getElem?_eq_some_iff.1 HK2.out).1).trans HK2.out)
 have HD3 := Lib.hid (doc_below HD2.out hb3)
 have HC3 := Lib.hid (Kd.C_below HC.out hb3)
 clear hb3 HRL HK2 HC HB2 HD2 HR2 k0 k1 k2 k3 k4 k5 k6 k7 k8 k9
 obtain ⟨k0, k1, k2, k3, k4, k5, k6, k7, k8, k9⟩ := Own.cs10 HK3.out
 by_cases he : ee = 0
 ·
  subst he
  have HE := Lib.hid (show (realP d.shows pa).2 = 0 by rw [← HR.out])
  have HP := Lib.hid (show (realP d.shows pa).1 = p by rw [← HR.out])
  have HKD := Lib.hid (rkind_any d.shows A c p w3 HC3.out)
  have hps : p.size ≤ 9000 := by have := real_tiny (Trees.shows HD3.out.trees) HE.out; rw [HP.out] at this; exact this
  obtain ⟨kk, hkk⟩ : ∃ kk, kk = kindOf d.shows p := ⟨_, rfl⟩
  rw [← hkk] at HKD
  have HKK := Lib.hid (show kindOf d.shows (realP d.shows pa).1 = kk by rw [HP.out]; exact hkk.symm)
  clear hkk
  go_wp2_with fail
  refine HKD.out.mono ?_
  rintro e w4 ⟨rfl, hb4⟩
  have HB4 := Lib.hid (below_next HB3.out hb4)
  have HK4 := Lib.hid ((hb4.block bc (Array.getElem?_eq_some_iff.1 HK3.out).1).trans HK3.out)
  have HD4 := Lib.hid (doc_below HD3.out hb4)
  have HC4 := Lib.hid (Kd.C_below HC3.out hb4)
  clear hb4 HKD HK3 HC3 HB3 HD3 k0 k1 k2 k3 k4 k5 k6 k7 k8 k9
  obtain ⟨k0, k1, k2, k3, k4, k5, k6, k7, k8, k9⟩ := Own.cs10 HK4.out
  have hb5 := below_one w4 (.cells #[.int .i64 kd, .int .u32 (mo % 4096), .int .u32 ui, .int .u32 gi, .int .i64 mt, .int .i64 at_, .string da] 34)
  have hb6 := below_one (w4.alloc (.cells #[.int .i64 kd, .int .u32 (mo % 4096), .int .u32 ui, .int .u32 gi, .int .i64 mt, .int .i64 at_, .string da] 34)) (.cells #[.int .i64 3, .string p, .string ⟨#[]⟩, .int .i64 kd, .int .u32 (mo % 4096), .int .u32 ui, .int .u32 gi, .int .i64 mt, .int .i64 at_, .string da, .bool false] 121)
  have HN5 := Lib.hid (heap_new w4 (.cells #[.int .i64 kd, .int .u32 (mo % 4096), .int .u32 ui, .int .u32 gi, .int .i64 mt, .int .i64 at_, .string da] 34))
  have HK5 := Lib.hid ((hb5.block bc (Array.getElem?_eq_some_iff.1 HK4.out).1).trans HK4.out)
  have HSZ5 : (w4.alloc (.cells #[.int .i64 kd, .int .u32 (mo % 4096), .int .u32 ui, .int .u32 gi, .int .i64 mt, .int .i64 at_, .string da] 34)).heap.size = w4.heap.size + 1 := Array.size_push _
  have HX6 := Lib.hid (heap_new (w4.alloc (.cells #[.int .i64 kd, .int .u32 (mo % 4096), .int .u32 ui, .int .u32 gi, .int .i64 mt, .int .i64 at_, .string da] 34)) (.cells #[.int .i64 3, .string p, .string ⟨#[]⟩, .int .i64 kd, .int .u32 (mo % 4096), .int .u32 ui, .int .u32 gi, .int .i64 mt, .int .i64 at_, .string da, .bool false] 121))
  rw [HSZ5] at HX6
  have HN6 := Lib.hid ((hb6.block w4.heap.size (Array.getElem?_eq_some_iff.1 HN5.out).1).trans HN5.out)
  have HK6 := Lib.hid ((hb6.block bc (Array.getElem?_eq_some_iff.1 HK5.out).1).trans HK5.out)
  have HB5 := Lib.hid (below_next HB4.out hb5)
  have HB6 := Lib.hid (below_next HB5.out hb6)
  have HD6 := Lib.hid (doc_below (doc_below HD4.out hb5) hb6)
  have HC6 := Lib.hid (Kd.C_below (Kd.C_below HC4.out hb5) hb6)
  have hbw : W.heap.size ≤ w4.heap.size + 1 ∧ W0.heap.size ≤ w4.heap.size + 1 := by have h1 := HB4.out.size; have h2 := HD4.out.low.size; exact ⟨Nat.le_succ_of_le h1, Nat.le_succ_of_le h2⟩
  have HQB : Hid (∀ k, ROwns b vb (.slice Aw d.waits.length cw) k → k ≠ w4.heap.size + 1) := Lib.hid (fun k hk => Nat.ne_of_lt (Nat.lt_succ_of_lt (rowns_lt HD4.out.at_ k hk)))
  have HNX := Lib.hid (show w4.heap.size ≠ w4.heap.size + 1 by omega)
  clear HSZ5
  have z1 := frozen_of HN5.out 1
  clear hb5 hb6 HB4 HD4 HC4
  have a0 : (w4.alloc (.cells #[.int .i64 kd, .int .u32 (mo % 4096), .int .u32 ui, .int .u32 gi, .int .i64 mt, .int .i64 at_, .string da] 34)).cell? ⟨bc, 0, none⟩ = some (.int .i64 3) := by rw [cell_of HK5.out]; rfl
  obtain ⟨n0, n1, n2, n3, n4, n5, n6⟩ := Own.cs7 HN5.out
  have b0 : ((w4.alloc (.cells #[.int .i64 kd, .int .u32 (mo % 4096), .int .u32 ui, .int .u32 gi, .int .i64 mt, .int .i64 at_, .string da] 34)).alloc (.cells #[.int .i64 3, .string p, .string ⟨#[]⟩, .int .i64 kd, .int .u32 (mo % 4096), .int .u32 ui, .int .u32 gi, .int .i64 mt, .int .i64 at_, .string da, .bool false] 121)).cell? ⟨bc, 0, none⟩ = some (.int .i64 3) := by rw [cell_of HK6.out]; rfl
  have b1 : ((w4.alloc (.cells #[.int .i64 kd, .int .u32 (mo % 4096), .int .u32 ui, .int .u32 gi, .int .i64 mt, .int .i64 at_, .string da] 34)).alloc (.cells #[.int .i64 3, .string p, .string ⟨#[]⟩, .int .i64 kd, .int .u32 (mo % 4096), .int .u32 ui, .int .u32 gi, .int .i64 mt, .int .i64 at_, .string da, .bool false] 121)).cell? ⟨bc, 1, none⟩ = some (.string pa) := by rw [cell_of HK6.out]; rfl
  have b2 : ((w4.alloc (.cells #[.int .i64 kd, .int .u32 (mo % 4096), .int .u32 ui, .int .u32 gi, .int .i64 mt, .int .i64 at_, .string da] 34)).alloc (.cells #[.int .i64 3, .string p, .string ⟨#[]⟩, .int .i64 kd, .int .u32 (mo % 4096), .int .u32 ui, .int .u32 gi, .int .i64 mt, .int .i64 at_, .string da, .bool false] 121)).cell? ⟨bc, 2, none⟩ = some (.string tp) := by rw [cell_of HK6.out]; rfl
  have o0 : ((w4.alloc (.cells #[.int .i64 kd, .int .u32 (mo % 4096), .int .u32 ui, .int .u32 gi, .int .i64 mt, .int .i64 at_, .string da] 34)).alloc (.cells #[.int .i64 3, .string p, .string ⟨#[]⟩, .int .i64 kd, .int .u32 (mo % 4096), .int .u32 ui, .int .u32 gi, .int .i64 mt, .int .i64 at_, .string da, .bool false] 121)).cell? ⟨w4.heap.size, 0, none⟩ = some (.int .i64 kd) := by rw [cell_of HN6.out]; rfl
  have o6 : ((w4.alloc (.cells #[.int .i64 kd, .int .u32 (mo % 4096), .int .u32 ui, .int .u32 gi, .int .i64 mt, .int .i64 at_, .string da] 34)).alloc (.cells #[.int .i64 3, .string p, .string ⟨#[]⟩, .int .i64 kd, .int .u32 (mo % 4096), .int .u32 ui, .int .u32 gi, .int .i64 mt, .int .i64 at_, .string da, .bool false] 121)).cell? ⟨w4.heap.size, 6, none⟩ = some (.string da) := by rw [cell_of HN6.out]; rfl
  have c2 : ((w4.alloc (.cells #[.int .i64 kd, .int .u32 (mo % 4096), .int .u32 ui, .int .u32 gi, .int .i64 mt, .int .i64 at_, .string da] 34)).alloc (.cells #[.int .i64 3, .string p, .string ⟨#[]⟩, .int .i64 kd, .int .u32 (mo % 4096), .int .u32 ui, .int .u32 gi, .int .i64 mt, .int .i64 at_, .string da, .bool false] 121)).cell? ⟨(w4.heap.size + 1), 2, none⟩ = some (.string ⟨#[]⟩) := by rw [cell_of HX6.out]; rfl
  have HRQ := Lib.hid (rreal_any d.shows HT.out ((w4.alloc (.cells #[.int .i64 kd, .int .u32 (mo % 4096), .int .u32 ui, .int .u32 gi, .int .i64 mt, .int .i64 at_, .string da] 34)).alloc (.cells #[.int .i64 3, .string p, .string ⟨#[]⟩, .int .i64 kd, .int .u32 (mo % 4096), .int .u32 ui, .int .u32 gi, .int .i64 mt, .int .i64 at_, .string da, .bool false] 121)) A c HC6.out tp (by omega))
  obtain ⟨Q, hQ⟩ : ∃ Q, Q = realP d.shows tp := ⟨_, rfl⟩
  rw [← hQ] at HRQ
  have HQR := Lib.hid hQ
  clear hQ
  obtain ⟨q, fe⟩ := Q
  simp only at HRQ
  have HBW : Hid (W.heap.size ≤ w4.heap.size + 1 ∧ W0.heap.size ≤ w4.heap.size + 1) := Lib.hid hbw
  go_wp2_with fail
  generalize ((w4.alloc (.cells #[.int .i64 kd, .int .u32 (mo % 4096), .int .u32 ui, .int .u32 gi, .int .i64 mt, .int .i64 at_, .string da] 34)).alloc (.cells #[.int .i64 3, .string p, .string ⟨#[]⟩, .int .i64 kd, .int .u32 (mo % 4096), .int .u32 ui, .int .u32 gi, .int .i64 mt, .int .i64 at_, .string da, .bool false] 121)) = W6 at *
  generalize w4.heap.size + 1 = bch at *
  generalize w4.heap.size = bn at *
  refine HRQ.out.mono ?_
  rintro e w7 ⟨rfl, hb7⟩
  have HB7 := Lib.hid (below_next HB6.out hb7)
  have HD7 := Lib.hid (doc_below HD6.out hb7)
  have HX7 := Lib.hid ((hb7.block bch (Array.getElem?_eq_some_iff.1 HX6.out).1).trans HX6.out)
  have HC7 := Lib.hid (Kd.C_below HC6.out hb7)
  clear hb7 HRQ
  by_cases hfe : fe = 0
  ·
   subst hfe
   have HQE := Lib.hid (show (realP d.shows tp).2 = 0 by rw [← HQR.out])
   have HQP := Lib.hid (show (realP d.shows tp).1 = q by rw [← HQR.out])
   by_cases hkk : kk = 0
   ·
    subst hkk
    have HL := Lib.hid (rename_none nzR d pa tp (kd, mo, ui, gi, mt, at_, da) HE.out HQE.out HKK.out)
    go_wp2
    go_ret
    rw [HL.out]
    exact rpost_same HD7.out HB7.out
   have q0 : (kk == 0) = false := beq_eq_false_iff_ne.2 hkk
   have q1 : (kk != 0) = true := bne_iff_ne.2 hkk
   by_cases hk1 : kk = 1
   ·
    have q2 : (kk == 1) = true := by rw [hk1]; rfl
    have HK1 := Lib.hid (HKK.out.trans hk1)
    clear hk1
    have HL := Lib.hid (rename_kind nzR d pa tp (kd, mo, ui, gi, mt, at_, da) HE.out HQE.out (by rw [HKK.out]; exact hkk) (.inl HK1.out))
    go_wp2
    go_ret
    rw [HL.out]
    exact rpost_same HD7.out HB7.out
   have q2 : (kk == 1) = false := beq_eq_false_iff_ne.2 hk1
   have HKQ := Lib.hid (rkind_any d.shows A c q w7 HC7.out)
   obtain ⟨kq, hkq⟩ : ∃ kq, kq = kindOf d.shows q := ⟨_, rfl⟩
   rw [← hkq] at HKQ
   have HKQE := Lib.hid (show kindOf d.shows (realP d.shows tp).1 = kq by rw [HQP.out]; exact hkq.symm)
   clear hkq
   go_wp2_with fail
   refine HKQ.out.mono ?_
   rintro e w8 ⟨rfl, hb8⟩
   have HB8 := Lib.hid (below_next HB7.out hb8)
   have HD8 := Lib.hid (doc_below HD7.out hb8)
   have HX8 := Lib.hid ((hb8.block bch (Array.getElem?_eq_some_iff.1 HX7.out).1).trans HX7.out)
   clear hb8 HKQ
   by_cases hq1 : kq = 1
   ·
    have q4 : (kq == 1) = true := by rw [hq1]; rfl
    have HK1 := Lib.hid (HKQE.out.trans hq1)
    clear hq1
    have HL := Lib.hid (rename_kind nzR d pa tp (kd, mo, ui, gi, mt, at_, da) HE.out HQE.out (by rw [HKK.out]; exact hkk) (.inr HK1.out))
    go_wp2
    go_ret
    rw [HL.out]
    exact rpost_same HD8.out HB8.out
   have q4 : (kq == 1) = false := beq_eq_false_iff_ne.2 hq1
   have f2 : w8.cell? ⟨bch, 2, none⟩ = some (.string ⟨#[]⟩) := by rw [cell_of HX8.out]; rfl
   have zf := frozen_of HX8.out 2
   have HXs := Lib.hid (blk_put HX8.out 2 (.string q) rfl)
   have HDs := Lib.hid (doc_far HD8.out (fun k hk => HQB.out k hk) (by have := HD8.out.low.size; have := HBW.out; omega) 2 (.string q))
   have HBs := Lib.hid (below_of_grown HB8.out (Nat.le_refl _) (set_grown w8 bch 2 (.string q)) (fun x hx => by injection hx with hx; have := HBW.out; omega))
   have HL := Lib.hid (rename_ok nzR d pa tp (kd, mo, ui, gi, mt, at_, da) HE.out HQE.out (by rw [HKK.out]; exact hkk) (by rw [HKK.out, HKQE.out]; omega))
   go_wp2
   have HD9 : Hid (Doc W0 (w8.setCell ⟨bch, 2, none⟩ (.string q)).drew b vb (.slice Aw d.waits.length cw) d m) := Lib.hid (doc_below HDs.out (below_drew (Below.refl _ _)))
   have HB9 : Hid (Below W.heap.size W (w8.setCell ⟨bch, 2, none⟩ (.string q)).drew) := Lib.hid (below_drew HBs.out)
   have HX9 : Hid ((w8.setCell ⟨bch, 2, none⟩ (.string q)).drew.heap[bch]? = some (.cells #[.int .i64 3, .string p, .string q, .int .i64 kd, .int .u32 (mo % 4096), .int .u32 ui, .int .u32 gi, .int .i64 mt, .int .i64 at_, .string da, .bool false] 121 (0, 0))) := Lib.hid HXs.out
   have r0 := HD9.out.at_.c1
   obtain ⟨r1, r2, r3, r4, r5, r6, r7, r8, r9, r10, r11⟩ := Own.cs11 HX9.out
   refine start_ (n := 11) (S := fun w' => w'.cell? ⟨b, 1, none⟩ = some (.slice Aw d.waits.length cw) ∧ w'.cell? ⟨bch, 0, none⟩ = some (.int .i64 3) ∧ w'.cell? ⟨bch, 1, none⟩ = some (.string p) ∧ w'.cell? ⟨bch, 2, none⟩ = some (.string q) ∧ w'.cell? ⟨bch, 3, none⟩ = some (.int .i64 kd) ∧ w'.cell? ⟨bch, 4, none⟩ = some (.int .u32 (mo % 4096)) ∧ w'.cell? ⟨bch, 5, none⟩ = some (.int .u32 ui) ∧ w'.cell? ⟨bch, 6, none⟩ = some (.int .u32 gi) ∧ w'.cell? ⟨bch, 7, none⟩ = some (.int .i64 mt) ∧ w'.cell? ⟨bch, 8, none⟩ = some (.int .i64 at_) ∧ w'.cell? ⟨bch, 9, none⟩ = some (.string da) ∧ w'.cell? ⟨bch, 10, none⟩ = some (.bool false)) (ds := [10]) (Own.bm 11 0) (by kernel_rfl) rfl rfl ⟨r0, r1, r2, r3, r4, r5, r6, r7, r8, r9, r10, r11⟩ (fun hHeld => ?_)
   generalize (w8.setCell ⟨bch, 2, none⟩ (.string q)).drew = W9 at *
   refine pure_ (i := 0) (N := some 190) (v := ?_) (a' := ?_) (Own.bm 11 1) rfl rfl (by kernel_rfl) (fun _ _ _ h => h) (Or.inl ⟨by rfl, ?_⟩) ?_ ?_
   rotate_left;intro w';go_simp;with_reducible rfl;rotate_left;simp only [Act.put, Own.na, Own.nz, Own.ns, i64_w, i32_w];rfl
   refine pure_ (i := 1) (N := some 191) (v := ?_) (a' := ?_) (Own.bm 11 3) rfl rfl (by kernel_rfl) (fun _ _ _ h => h) (Or.inl ⟨by rfl, ?_⟩) ?_ ?_
   rotate_left;intro w';go_simp;with_reducible rfl;rotate_left;simp only [Act.put, Own.na, Own.nz, Own.ns, i64_w, i32_w];rfl
   refine pure_ (i := 2) (N := some 192) (v := ?_) (a' := ?_) (Own.bm 11 7) rfl rfl (by kernel_rfl) (fun _ _ _ h => h) (Or.inl ⟨by rfl, ?_⟩) ?_ ?_
   rotate_left;intro w';go_simp;with_reducible rfl;rotate_left;simp only [Act.put, Own.na, Own.nz, Own.ns, i64_w, i32_w];rfl
   refine pure_ (i := 3) (N := some 193) (v := ?_) (a' := ?_) (Own.bm 11 15) rfl rfl (by kernel_rfl) (fun _ _ _ h => h) (Or.inl ⟨by rfl, ?_⟩) ?_ ?_
   rotate_left;intro w';go_simp;with_reducible rfl;rotate_left;simp only [Act.put, Own.na, Own.nz, Own.ns, i64_w, i32_w];rfl
   refine take_ (i := 4) (N := some 194) (v := ?_) (a' := ?_) (Own.bm 11 31) rfl rfl (by kernel_rfl) (fun _ _ _ h => h) (Or.inl ⟨by rfl, ?_⟩) hHeld ?_ ?_
   rotate_left;rintro w' ⟨s0, s1, s2, s3, s4, s5, s6, s7, s8, s9, s10, s11⟩;go_simp;with_reducible rfl;rotate_left;simp only [Act.put, Own.na, Own.nz, Own.ns, i64_w, i32_w];rfl
   refine take_ (i := 5) (N := some 195) (v := ?_) (a' := ?_) (Own.bm 11 63) rfl rfl (by kernel_rfl) (fun _ _ _ h => h) (Or.inl ⟨by rfl, ?_⟩) hHeld ?_ ?_
   rotate_left;rintro w' ⟨s0, s1, s2, s3, s4, s5, s6, s7, s8, s9, s10, s11⟩;go_simp;with_reducible rfl;rotate_left;simp only [Act.put, Own.na, Own.nz, Own.ns, i64_w, i32_w];rfl
   refine one_ (i := 6) (N := some 196) (Own.bm 11 127) rfl rfl (by kernel_rfl) (by decide) (fun K hK => ?_)
   refine value_ (w1 := ?_) (v := ?_) (by rfl) rfl ?_ ?_
   rotate_left 2
   ·
    go_simp
    constructor
    ·
     rfl
    rfl
   refine hK.out _ _ ⟨pw_cell_below (below_one _ _) r0, pw_cell_below (below_one _ _) r1, pw_cell_below (below_one _ _) r2, pw_cell_below (below_one _ _) r3, pw_cell_below (below_one _ _) r4, pw_cell_below (below_one _ _) r5, pw_cell_below (below_one _ _) r6, pw_cell_below (below_one _ _) r7, pw_cell_below (below_one _ _) r8, pw_cell_below (below_one _ _) r9, pw_cell_below (below_one _ _) r10, pw_cell_below (below_one _ _) r11⟩ (fun hHeld => ?_)
   clear hK K
   refine norm_ (a' := ?_) ?_ ?_
   rotate_left
   ·
    show Act.put _ (some 196) _ = _
    simp only [Act.put, Own.na, Own.nz, Own.ns, i64_w, i32_w]
    rfl
   refine one_ (i := 7) (N := some 197) (Own.bm 11 255) rfl rfl (by kernel_rfl) (by decide) (fun K hK => ?_)
   refine Kd.R_append_step chK (w0 := W9) W0.heap.size (by rfl) (.tmp 194) (.tmp 196) 85 121 (.agg #[.int .i64 0, .string ByteArray.empty, .string ByteArray.empty, .int .i64 0, .int .u32 0, .int .u32 0, .int .u32 0, .int .i64 0, .int .i64 0, .string ByteArray.empty, .bool false]) 104 rfl Tryz.underlying85 infoRCh rfl (by decide) (by decide) _ d.waits (3, p, q, (kd, masked mo, ui, gi, mt, at_, da), false) [.int .i64 3, .string p, .string q, .int .i64 kd, .int .u32 (mo % 4096), .int .u32 ui, .int .u32 gi, .int .i64 mt, .int .i64 at_, .string da, .bool false] (fun _ => True) (fun _ => False) rfl rfl ?aP (fun _ hk => hk.elim) ?aF ?aO ?aB ?aS ?aL ?_
   (case aP => exact chK_M _ _ _ _ _ _ _ _ _ _ _ _ _ _)
   (case aB => exact Below.refl _ _)
   (case aF => exact (fun _ _ => trivial))
   (case aO => exact HD9.out.at_.rw)
   (case aS => exact HD9.out.low.size)
   (case aL => have := HD9.out.bnd.len; omega)
   intro v1 w10 ho hb8 hg8 hat8
   obtain ⟨A2, c2, hv2⟩ := Kd.R_slice ho
   generalize (d.waits ++ ([(3, p, q, (kd, masked mo, ui, gi, mt, at_, da), false)] : List Chg)).length = N at hv2
   subst hv2
   have HO10 := Lib.hid ho
   have HG10 := Lib.hid hg8
   have HA10 := Lib.hid hat8
   have q0 := cell_grown hg8 r0 (Kd.R_ne HD9.out.at_.rw HD9.out.at_.blk (by decide))
   have q1 := cell_grown hg8 r1 (fun e => HQB.out bch (.inr (.inr e.symm)) rfl)
   have q2 := cell_grown hg8 r2 (fun e => HQB.out bch (.inr (.inr e.symm)) rfl)
   have q3 := cell_grown hg8 r3 (fun e => HQB.out bch (.inr (.inr e.symm)) rfl)
   have q4 := cell_grown hg8 r4 (fun e => HQB.out bch (.inr (.inr e.symm)) rfl)
   have q5 := cell_grown hg8 r5 (fun e => HQB.out bch (.inr (.inr e.symm)) rfl)
   have q6 := cell_grown hg8 r6 (fun e => HQB.out bch (.inr (.inr e.symm)) rfl)
   have q7 := cell_grown hg8 r7 (fun e => HQB.out bch (.inr (.inr e.symm)) rfl)
   have q8 := cell_grown hg8 r8 (fun e => HQB.out bch (.inr (.inr e.symm)) rfl)
   have q9 := cell_grown hg8 r9 (fun e => HQB.out bch (.inr (.inr e.symm)) rfl)
   have q10 := cell_grown hg8 r10 (fun e => HQB.out bch (.inr (.inr e.symm)) rfl)
   have q11 := cell_grown hg8 r11 (fun e => HQB.out bch (.inr (.inr e.symm)) rfl)
   have z8 : w10.frozen? ⟨b, 1, none⟩ = false := frozen_of ((hg8.block b HD9.out.at_.lt (Kd.R_ne HD9.out.at_.rw HD9.out.at_.blk (by decide))).trans HD9.out.at_.blk) 1
   clear ho hb8 hg8 hat8
   refine hK.out _ _ ⟨q0, q1, q2, q3, q4, q5, q6, q7, q8, q9, q10, q11⟩ (fun hHeld => ?_)
   clear hK K
   refine norm_ (a' := ?_) ?_ ?_
   rotate_left
   ·
    show Act.put _ (some 197) _ = _
    simp only [Act.put, Own.na, Own.nz, Own.ns, i64_w, i32_w]
    rfl
   refine pure_ (i := 8) (N := some 198) (v := ?_) (a' := ?_) (Own.bm 11 511) rfl rfl (by kernel_rfl) (fun _ _ _ h => h) (Or.inl ⟨by rfl, ?_⟩) ?_ ?_
   rotate_left;intro w';go_simp;with_reducible rfl;rotate_left;simp only [Act.put, Own.na, Own.nz, Own.ns, i64_w, i32_w];rfl
   refine pure_ (i := 9) (N := some 199) (v := ?_) (a' := ?_) (Own.bm 11 1023) rfl rfl (by kernel_rfl) (fun _ _ _ h => h) (Or.inl ⟨by rfl, ?_⟩) ?_ ?_
   rotate_left;intro w';go_simp;with_reducible rfl;rotate_left;simp only [Act.put, Own.na, Own.nz, Own.ns, i64_w, i32_w];rfl
   refine last_ (i := 10) (N := none) (Own.bm 11 2047) rfl rfl (by kernel_rfl) (by decide) (fun K hK => ?_)
   refine skip_ (w1 := ?_) (by rfl) rfl ?_ ?_
   rotate_left
   ·
    go_simp
    rfl
   refine hK.out _ _ ?_
   clear hK K
   refine done_ (by kernel_rfl) ?_
   have HA11 := Lib.hid (rwaits HD9.out.at_ HO10.out HG10.out)
   have HS11 := Lib.hid ((Still.below HB9.out (ROwns b vb (.slice Aw d.waits.length cw))).trans (still_rwaits (v1 := .slice A2 N c2) b vb HG10.out HA10.out (.slice A2 N c2)))
   clear HO10 HG10 HA10 z8 HX9 HB9 r0 r1 r2 r3 r4 r5 r6 r7 r8 r9 r10 r11 q0 q1 q2 q3 q4 q5 q6 q7 q8 q9 q10 q11
   go_wp2
   go_ret
   rw [HL.out, HP.out, HQP.out]
   exact ⟨rfl, vb, _, HA11.out, HS11.out⟩
  have v0 : (fe == 0) = false := beq_eq_false_iff_ne.2 hfe
  have v1 : (fe != 0) = true := bne_iff_ne.2 hfe
  have HL := Lib.hid (rename_to nzR d pa tp (kd, mo, ui, gi, mt, at_, da) HE.out (by rw [← HQR.out]; exact hfe))
  rw [← HQR.out] at HL
  clear hfe
  go_wp2
  go_ret
  rw [HL.out]
  exact rpost_same HD7.out HB7.out
 have v0 : (ee == 0) = false := beq_eq_false_iff_ne.2 he
 have v1 : (ee != 0) = true := bne_iff_ne.2 he
 have HL := Lib.hid (own_real nzR d 3 pa tp (kd, mo, ui, gi, mt, at_, da) (by decide) (by rw [← HR.out]; exact he))
 rw [← HR.out] at HL
 clear he
 go_wp2
 go_ret
 rw [HL.out]
 exact rpost_same HD3.out HB3.out
end Go.Proofs.YtibmfjacfbpfgaaGreatDoor.ROwnRename
namespace Go.Proofs.YtibmfjacfbpfgaaGreatDoor.RDo
open Go.RowKit YtibmfjacfbpfgaaGreatDoorW.PrintWords YtibmfjacfbpfgaaGreatDoorW.PrintLast YtibmfjacfbpfgaaGreatDoorW.PrintMore NameLaw NameWalk NameRef NameUse YtibmfjacfbpfgaaGreatDoor.Item Own NodeRes TreeLaw TreeRef SortIns SortSwap FillLaw DiffLaw RealLaw RealKeep KeepLaw OpLaw OpKeep DkLaw OwnLeaf DSmall DSync RLead RReal RDisk RSum ROwnA ROwnMake ROwnWrite ROwnMeta ROwnFlush ROwnSync ROwnRemove ROwnRename
theorem rown_any (W0 W : World) (b : Nat) (vb vw : Value) (d : Dk) (m : Nat) (hD : Doc W0 W b vb vw d m) (hm : m ≤ 700000) (k : Int) (hk : k = 0 ∨ k = 1 ∨ k = 2 ∨ k = 3 ∨ k = 4 ∨ k = 5 ∨ k = 6) (pa tp : ByteArray) (kd mo ui gi mt at_ : Int) (da : ByteArray) (hp : pa.size ≤ 10000) (htp : tp.size ≤ 10000) (hda : da.size ≤ 100000) (hmo : 0 ≤ mo) :
  Calls Tryz.prog 84 #[.pointer (some ⟨b, 0, none⟩), .agg #[.int .i64 k, .string pa, .string tp, .int .i64 kd, .int .u32 mo, .int .u32 ui, .int .u32 gi, .int .i64 mt, .int .i64 at_, .string da]] W (RPost W0 W b vb vw (ownD nzR d k pa tp (kd, mo, ui, gi, mt, at_, da))) := by
 rcases hk with rfl | rfl | rfl | rfl | rfl | rfl | rfl
 ·
  exact rown_make W0 W b vb vw d m hD hm pa tp kd mo ui gi mt at_ da hp htp hda hmo
 ·
  exact rown_write W0 W b vb vw d m hD hm pa tp kd mo ui gi mt at_ da hp htp hda hmo
 ·
  exact rown_remove W0 W b vb vw d m hD hm pa tp kd mo ui gi mt at_ da hp htp hda hmo
 ·
  exact rown_rename W0 W b vb vw d m hD hm pa tp kd mo ui gi mt at_ da hp htp hda hmo
 ·
  exact rown_meta W0 W b vb vw d m hD hm pa tp kd mo ui gi mt at_ da hp htp hda hmo
 ·
  exact rown_sync W0 W b vb vw d m hD hm pa tp kd mo ui gi mt at_ da hp htp hda hmo
 exact rown_flush W0 W b vb vw d m hD hm pa tp kd mo ui gi mt at_ da hp htp hda hmo
set_option maxHeartbeats 8000000 in
set_option maxRecDepth 100000 in
theorem rdo_any (W0 W : World) (b : Nat) (vb vw : Value) (d : Dk) (m : Nat) (hD : Doc W0 W b vb vw d m) (hm : m ≤ 700000) (k : Int) (hk : k = 0 ∨ k = 1 ∨ k = 2 ∨ k = 3 ∨ k = 4 ∨ k = 5 ∨ k = 6) (pa tp : ByteArray) (kd mo ui gi mt at_ : Int) (da : ByteArray) (hp : pa.size ≤ 10000) (htp : tp.size ≤ 10000) (hda : da.size ≤ 100000) (hmo : 0 ≤ mo) :
  Calls Tryz.prog 49 #[.pointer (some ⟨b, 0, none⟩), .agg #[.int .i64 k, .string pa, .string tp, .int .i64 kd, .int .u32 mo, .int .u32 ui, .int .u32 gi, .int .i64 mt, .int .i64 at_, .string da]] W (RPost W0 W b vb vw (opD nzR d k pa tp (kd, mo, ui, gi, mt, at_, da))) := by
 have hb1 := below_one W (.cells #[.int .i64 k, .string pa, .string tp, .int .i64 kd, .int .u32 mo, .int .u32 ui, .int .u32 gi, .int .i64 mt, .int .i64 at_, .string da] 91)
 have HD1 := Lib.hid (doc_below hD hb1)
 have HS1 := Lib.hid (Still.below hb1 (ROwns b vb vw))
 have HK1 := Lib.hid (heap_new W (.cells #[.int .i64 k, .string pa, .string tp, .int .i64 kd, .int .u32 mo, .int .u32 ui, .int .u32 gi, .int .i64 mt, .int .i64 at_, .string da] 91))
 have HBD : Hid (W.heap.size ≠ b) := Lib.hid (fun e => by have := hD.at_.lt; omega)
 have HBN := Lib.hid hD.bnd
 have HTR := Lib.hid hD.trees
 obtain ⟨k0, k1, k2, k3, k4, k5, k6, k7, k8, k9⟩ := Own.cs10 HK1.out
 clear hb1 hD
 have c3 := HD1.out.at_.c3
 have c4 := HD1.out.at_.c4
 have c5 := HD1.out.at_.c5
 have z4 := HD1.out.at_.fz 4
 have z5 := HD1.out.at_.fz 5
 go_enter Tryz.func49, Tryz.ntmps49
 by_cases ho : d.off = true
 ·
  rw [ho] at c5
  have HBG : Hid (beginD d = (52, d)) := Lib.hid (by unfold beginD; rw [if_pos ho])
  have HL := Lib.hid (op_stop (nz := nzR) (k := k) (path := pa) (tp := tp) (n := (kd, mo, ui, gi, mt, at_, da)) (show (beginD d).1 ≠ 0 by rw [HBG.out]; show (52 : Int) ≠ 0; decide))
  clear ho
  go_wp2
  go_ret
  rw [HL.out, HBG.out]
  exact ⟨rfl, vb, vw, HD1.out.at_, HS1.out⟩
 have ho2 : d.off = false := by simpa using ho
 rw [ho2] at c5
 by_cases hf : d.fuse = 0
 ·
  rw [hf] at c3
  have HBG : Hid (beginD d = (52, { d with off := true })) := Lib.hid (by unfold beginD; rw [if_neg ho, if_pos hf])
  have HL := Lib.hid (op_stop (nz := nzR) (k := k) (path := pa) (tp := tp) (n := (kd, mo, ui, gi, mt, at_, da)) (show (beginD d).1 ≠ 0 by rw [HBG.out]; show (52 : Int) ≠ 0; decide))
  have HA2 := Lib.hid (HD1.out.at_.put 5 (.bool true) (d' := { d with off := true }) rfl rfl rfl)
  have HS2 := Lib.hid (HS1.out.trans (still_rset (W.alloc (.cells #[.int .i64 k, .string pa, .string tp, .int .i64 kd, .int .u32 mo, .int .u32 ui, .int .u32 gi, .int .i64 mt, .int .i64 at_, .string da] 91)) b 5 (.bool true) vb vw))
  clear ho ho2 hf
  go_wp2
  go_ret
  rw [HL.out, HBG.out]
  exact ⟨rfl, vb, vw, HA2.out, HS2.out⟩
 have v3 : (d.fuse == 0) = false := beq_eq_false_iff_ne.2 hf
 by_cases ha : d.fail = 1
 ·
  rw [ha] at c4
  have HBG : Hid (beginD d = (51, { d with fail := 0 })) := Lib.hid (by unfold beginD; rw [if_neg ho, if_neg hf, if_pos ha])
  have HL := Lib.hid (op_stop (nz := nzR) (k := k) (path := pa) (tp := tp) (n := (kd, mo, ui, gi, mt, at_, da)) (show (beginD d).1 ≠ 0 by rw [HBG.out]; show (51 : Int) ≠ 0; decide))
  have HA2 := Lib.hid (HD1.out.at_.put 4 (.int .i64 0) (d' := { d with fail := 0 }) rfl rfl rfl)
  have HS2 := Lib.hid (HS1.out.trans (still_rset (W.alloc (.cells #[.int .i64 k, .string pa, .string tp, .int .i64 kd, .int .u32 mo, .int .u32 ui, .int .u32 gi, .int .i64 mt, .int .i64 at_, .string da] 91)) b 4 (.int .i64 0) vb vw))
  clear ho ho2 hf ha
  go_wp2
  go_ret
  rw [HL.out, HBG.out]
  exact ⟨rfl, vb, vw, HA2.out, HS2.out⟩
 have v4 : (d.fail == 1) = false := beq_eq_false_iff_ne.2 ha
 by_cases hb : 1 < d.fail
 ·
  have hw0 : Go.RowKit.wrap64 (d.fail - 1) = d.fail - 1 := by have := HBN.out.fail; unfold Go.RowKit.wrap64; omega
  have HBG : Hid (beginD d = (0, { d with fail := d.fail - 1 })) := Lib.hid (by unfold beginD; rw [if_neg ho, if_neg hf, if_neg ha, if_pos hb])
  have HB0 : Hid ((beginD d).1 = 0) := Lib.hid (by rw [HBG.out])
  have HB2 : Hid ((beginD d).2 = { d with fail := d.fail - 1 }) := Lib.hid (by rw [HBG.out])
  have HA2 := Lib.hid (HD1.out.at_.put 4 (.int .i64 (d.fail - 1)) (d' := { d with fail := d.fail - 1 }) rfl rfl rfl)
  have HS2 := Lib.hid (HS1.out.trans (still_rset (W.alloc (.cells #[.int .i64 k, .string pa, .string tp, .int .i64 kd, .int .u32 mo, .int .u32 ui, .int .u32 gi, .int .i64 mt, .int .i64 at_, .string da] 91)) b 4 (.int .i64 (d.fail - 1)) vb vw))
  have HD2 : Hid (Doc W0 ((W.alloc (.cells #[.int .i64 k, .string pa, .string tp, .int .i64 kd, .int .u32 mo, .int .u32 ui, .int .u32 gi, .int .i64 mt, .int .i64 at_, .string da] 91)).setCell ⟨b, 4, none⟩ (.int .i64 (d.fail - 1))) b vb vw { d with fail := d.fail - 1 } m) := Lib.hid ⟨below_of_grown HD1.out.low (Nat.le_refl _) (set_grown _ b 4 _) (fun x hx => by injection hx with hx; rw [← hx]; exact HD1.out.at_.nb), HA2.out, by have := begin_trees HTR.out; rw [HB2.out] at this; exact this, by have := begin_bnd HBN.out; rw [HB2.out] at this; exact this⟩
  have HK2 := Lib.hid (blk_far HK1.out (p := ⟨b, 4, none⟩) HBD.out (.int .i64 (d.fail - 1)))
  obtain ⟨j0, j1, j2, j3, j4, j5, j6, j7, j8, j9⟩ := Own.cs10 HK2.out
  clear ho ho2 hf ha
  have HO := Lib.hid (rown_any W0 ((W.alloc (.cells #[.int .i64 k, .string pa, .string tp, .int .i64 kd, .int .u32 mo, .int .u32 ui, .int .u32 gi, .int .i64 mt, .int .i64 at_, .string da] 91)).setCell ⟨b, 4, none⟩ (.int .i64 (d.fail - 1))) b vb vw { d with fail := d.fail - 1 } m HD2.out hm k hk pa tp kd mo ui gi mt at_ da hp htp hda hmo)
  obtain ⟨X, hX⟩ : ∃ X, X = ownD nzR { d with fail := d.fail - 1 } k pa tp (kd, mo, ui, gi, mt, at_, da) := ⟨_, rfl⟩
  rw [← hX] at HO
  have hos := own_steps nzR { d with fail := d.fail - 1 } k pa tp (kd, mo, ui, gi, mt, at_, da)
  rw [← hX] at hos
  have HX := Lib.hid hX
  clear hX
  obtain ⟨xe, d2⟩ := X
  simp only at hos
  obtain ⟨hs1, hs2, -, -, -⟩ := hos
  have hb1 := HBN.out.steps
  have hb2 := HBN.out.fuse
  have hst : 0 ≤ d2.steps ∧ d2.steps ≤ m := by rw [hs1]; exact hb1
  have hfu : d2.fuse ≤ 9223372036854775807 := by rw [hs2]; exact hb2
  have hst1 := hst.1
  have hst2 := hst.2
  clear hs1 hs2 hb1 hb2 hst
  go_wp2_with fail
  generalize ((W.alloc (.cells #[.int .i64 k, .string pa, .string tp, .int .i64 kd, .int .u32 mo, .int .u32 ui, .int .u32 gi, .int .i64 mt, .int .i64 at_, .string da] 91)).setCell ⟨b, 4, none⟩ (.int .i64 (d.fail - 1))) = Wb at *
  refine HO.out.mono ?_
  rintro e w5 ⟨rfl, vb1, vw1, ha5, hs5⟩
  have HA5 := Lib.hid ha5
  have HS5 := Lib.hid (HS2.out.trans hs5)
  clear ha5 hs5 HO
  simp only at HA5
  by_cases hxe : xe = 0
  ·
   subst hxe
   have HL := Lib.hid (op_done HB0.out HB2.out HX.out.symm)
   have c6 := HA5.out.c6
   have z6 := HA5.out.fz 6
   have hw : Go.RowKit.wrap64 (d2.steps + 1) = d2.steps + 1 := by unfold Go.RowKit.wrap64; omega
   have HA6 := Lib.hid (HA5.out.put 6 (.int .i64 (d2.steps + 1)) (d' := { d2 with steps := d2.steps + 1 }) rfl rfl rfl)
   have HS6 := Lib.hid (HS5.out.trans (still_rset w5 b 6 (.int .i64 (d2.steps + 1)) vb1 vw1))
   have c3 := HA6.out.c3
   have z3 := HA6.out.fz 3
   by_cases hf : 0 < d2.fuse
   ·
    have hw2 : Go.RowKit.wrap64 (d2.fuse - 1) = d2.fuse - 1 := by unfold Go.RowKit.wrap64; omega
    have HA7 := Lib.hid (HA6.out.put 3 (.int .i64 (d2.fuse - 1)) (d' := { d2 with steps := d2.steps + 1, fuse := d2.fuse - 1 }) rfl rfl rfl)
    have HS7 := Lib.hid (HS6.out.trans (still_rset _ b 3 (.int .i64 (d2.fuse - 1)) vb1 vw1))
    have HE : Hid (endD d2 = { d2 with steps := d2.steps + 1, fuse := d2.fuse - 1 }) := Lib.hid (by unfold endD; rw [if_pos hf])
    clear HA5 HS5 HA6 HS6
    go_wp2
    go_ret
    rw [HL.out, HE.out]
    exact ⟨rfl, vb1, vw1, HA7.out, HS7.out⟩
   have HE : Hid (endD d2 = { d2 with steps := d2.steps + 1 }) := Lib.hid (by unfold endD; rw [if_neg hf])
   clear HA5 HS5
   go_wp2
   go_ret
   rw [HL.out, HE.out]
   exact ⟨rfl, vb1, vw1, HA6.out, HS6.out⟩
  have v0 : (xe == 0) = false := beq_eq_false_iff_ne.2 hxe
  have HL := Lib.hid (op_fell HB0.out HB2.out HX.out.symm hxe)
  clear hxe
  go_wp2
  go_ret
  rw [HL.out]
  exact ⟨rfl, vb1, vw1, HA5.out, HS5.out⟩
 skip
 have HBG : Hid (beginD d = (0, d)) := Lib.hid (by unfold beginD; rw [if_neg ho, if_neg hf, if_neg ha, if_neg hb])
 have HB0 : Hid ((beginD d).1 = 0) := Lib.hid (by rw [HBG.out])
 have HB2 : Hid ((beginD d).2 = d) := Lib.hid (by rw [HBG.out])
 clear ho ho2 hf ha
 have HO := Lib.hid (rown_any W0 (W.alloc (.cells #[.int .i64 k, .string pa, .string tp, .int .i64 kd, .int .u32 mo, .int .u32 ui, .int .u32 gi, .int .i64 mt, .int .i64 at_, .string da] 91)) b vb vw d m HD1.out hm k hk pa tp kd mo ui gi mt at_ da hp htp hda hmo)
 obtain ⟨X, hX⟩ : ∃ X, X = ownD nzR d k pa tp (kd, mo, ui, gi, mt, at_, da) := ⟨_, rfl⟩
 rw [← hX] at HO
 have hos := own_steps nzR d k pa tp (kd, mo, ui, gi, mt, at_, da)
 rw [← hX] at hos
 have HX := Lib.hid hX
 clear hX
 obtain ⟨xe, d2⟩ := X
 simp only at hos
 obtain ⟨hs1, hs2, -, -, -⟩ := hos
 have hb1 := HBN.out.steps
 have hb2 := HBN.out.fuse
 have hst : 0 ≤ d2.steps ∧ d2.steps ≤ m := by rw [hs1]; exact hb1
 have hfu : d2.fuse ≤ 9223372036854775807 := by rw [hs2]; exact hb2
 have hst1 := hst.1
 have hst2 := hst.2
 clear hs1 hs2 hb1 hb2 hst
 go_wp2_with fail
 generalize (W.alloc (.cells #[.int .i64 k, .string pa, .string tp, .int .i64 kd, .int .u32 mo, .int .u32 ui, .int .u32 gi, .int .i64 mt, .int .i64 at_, .string da] 91)) = Wb at *
 refine HO.out.mono ?_
 rintro e w5 ⟨rfl, vb1, vw1, ha5, hs5⟩
 have HA5 := Lib.hid ha5
 have HS5 := Lib.hid (HS1.out.trans hs5)
 clear ha5 hs5 HO
 simp only at HA5
 by_cases hxe : xe = 0
 ·
  subst hxe
  have HL := Lib.hid (op_done HB0.out HB2.out HX.out.symm)
  have c6 := HA5.out.c6
  have z6 := HA5.out.fz 6
  have hw : Go.RowKit.wrap64 (d2.steps + 1) = d2.steps + 1 := by unfold Go.RowKit.wrap64; omega
  have HA6 := Lib.hid (HA5.out.put 6 (.int .i64 (d2.steps + 1)) (d' := { d2 with steps := d2.steps + 1 }) rfl rfl rfl)
  have HS6 := Lib.hid (HS5.out.trans (still_rset w5 b 6 (.int .i64 (d2.steps + 1)) vb1 vw1))
  have c3 := HA6.out.c3
  have z3 := HA6.out.fz 3
  by_cases hf : 0 < d2.fuse
  ·
   have hw2 : Go.RowKit.wrap64 (d2.fuse - 1) = d2.fuse - 1 := by unfold Go.RowKit.wrap64; omega
   have HA7 := Lib.hid (HA6.out.put 3 (.int .i64 (d2.fuse - 1)) (d' := { d2 with steps := d2.steps + 1, fuse := d2.fuse - 1 }) rfl rfl rfl)
   have HS7 := Lib.hid (HS6.out.trans (still_rset _ b 3 (.int .i64 (d2.fuse - 1)) vb1 vw1))
   have HE : Hid (endD d2 = { d2 with steps := d2.steps + 1, fuse := d2.fuse - 1 }) := Lib.hid (by unfold endD; rw [if_pos hf])
   clear HA5 HS5 HA6 HS6
   go_wp2
   go_ret
   rw [HL.out, HE.out]
   exact ⟨rfl, vb1, vw1, HA7.out, HS7.out⟩
  have HE : Hid (endD d2 = { d2 with steps := d2.steps + 1 }) := Lib.hid (by unfold endD; rw [if_neg hf])
  clear HA5 HS5
  go_wp2
  go_ret
  rw [HL.out, HE.out]
  exact ⟨rfl, vb1, vw1, HA6.out, HS6.out⟩
 have v0 : (xe == 0) = false := beq_eq_false_iff_ne.2 hxe
 have HL := Lib.hid (op_fell HB0.out HB2.out HX.out.symm hxe)
 clear hxe
 go_wp2
 go_ret
 rw [HL.out]
 exact ⟨rfl, vb1, vw1, HA5.out, HS5.out⟩
end Go.Proofs.YtibmfjacfbpfgaaGreatDoor.RDo
