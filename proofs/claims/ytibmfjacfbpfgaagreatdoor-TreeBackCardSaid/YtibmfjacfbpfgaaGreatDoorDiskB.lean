/- disk: a disk that is a tree, in memory. -/
import Derived.Test.YtibmfjacfbpfgaaGreatDoorStepG
import Derived.Test.YtibmfjacfbpfgaaGreatDoorDiskA
import Derived.Test.YtibmfjacfbpfgaaGreatDoorLawD
set_option linter.unusedVariables false
set_option linter.unusedSimpArgs false
namespace Go.Proofs.YtibmfjacfbpfgaaGreatDoor.DState
open Go.RowKit YtibmfjacfbpfgaaGreatDoorW.PrintWords YtibmfjacfbpfgaaGreatDoorW.PrintLast YtibmfjacfbpfgaaGreatDoorW.PrintMore NameLaw NameCmp NameWalk NameRef NameKeepLaw NodeRes YtibmfjacfbpfgaaGreatDoor.Item Own TreeLaw TreeNodes SortIns SortSwap FillLaw DiffLaw RealLaw DoneLaw KeepLaw OpLaw OpKeep JoinLaw DAt StepA Step Real DSmall DRows DDone DWait DkLaw
structure Prog (W0 W : World) (b : Nat) (vl vs vq : Value) (d : Dk) (m : Nat) : Prop where
 glob : Glob W0
 low : Below W0.heap.size W0 W
 at_ : DkAt W W0.heap.size b vl vs vq d
 trees : Trees d
 bnd : Bnd m d
def OpPost (W0 W : World) (b : Nat) (vl vs vq : Value) (r : Int × Dk) (e : Ending) (w' : World) : Prop :=
 e = .returned (.int .i64 r.1) ∧ ∃ vl1 vs1 vq1, DkAt w' W0.heap.size b vl1 vs1 vq1 r.2 ∧ Still W w' (Owns b vl vs vq) (Owns b vl1 vs1 vq1)
theorem still_new {W w : World} {S T : Nat → Prop} (h : Still W w S T) {g : Nat} (hg : W.heap.size ≤ g) (j : Nat) (u : Value) : Still W (w.setCell ⟨g, j, none⟩ u) S T :=
 ⟨h.os, h.tape, h.output, Nat.le_trans h.size (set_grown w g j u).size, fun k hk hs => ((set_grown w g j u).block k (Nat.lt_of_lt_of_le hk h.size) (fun e => by injection e with e; omega)).trans (h.block k hk hs), h.own⟩
section
variable {W0 W W1 : World} {b m : Nat} {vl vs vq : Value} {d : Dk}
theorem Prog.begun (hP : Prog W0 W b vl vs vq d m) (hd : DkAt W1 W0.heap.size b vl vs vq (beginD d).2) (hg : W.grownBy W1 (some b)) : Prog W0 W1 b vl vs vq (beginD d).2 m :=
 ⟨hP.glob, below_of_grown hP.low (Nat.le_refl _) hg (fun x hx => by injection hx with hx; rw [← hx]; exact hP.at_.nb), hd, begin_trees hP.trees, begin_bnd hP.bnd⟩
theorem Prog.below (hP : Prog W0 W b vl vs vq d m) (hb : Below W.heap.size W W1) : Prog W0 W1 b vl vs vq d m := ⟨hP.glob, below_next hP.low hb, hP.at_.below hb, hP.trees, hP.bnd⟩
theorem Prog.far (hP : Prog W0 W b vl vs vq d m) {g : Nat} (hn : ∀ k, Owns b vl vs vq k → k ≠ g) (hg : W0.heap.size ≤ g) (j : Nat) (u : Value) : Prog W0 (W.setCell ⟨g, j, none⟩ u) b vl vs vq d m :=
 ⟨hP.glob, below_of_grown hP.low (Nat.le_refl _) (set_grown W g j u) (fun x hx => by injection hx with hx; omega), hP.at_.still (S := fun k => k = g) (T := fun k => k = g) (Still.grown (set_grown W g j u) (fun k e => by injection e with e; exact e.symm) (fun k e => .inl e)) hn, hP.trees, hP.bnd⟩
theorem Prog.shown (hP : Prog W0 W b vl vs vq d m) (hm : m ≤ 900000) : Shown W b d.shows := by
 obtain ⟨A, c, rfl, _, hC⟩ := Kd.R_reads hP.at_.rs
 have hr := Trees.shows hP.trees
 have hb := hP.bnd.shows
 exact ⟨hP.glob.below hP.low, ⟨A, c, hP.at_.c1, hC⟩, hP.at_.lt, by omega, right_strict hr, right_size hr, fun x hx => hb.2 x hx⟩
theorem Prog.kind (hP : Prog W0 W b vl vs vq d m) (hm : m ≤ 900000) (p : ByteArray) (hp : p.size ≤ 100000) :
  Calls Tryz.prog 59 #[.pointer (some ⟨b, 0, none⟩), .string p] W fun e w' => e = .returned (.int .i64 (kindOf d.shows p)) ∧ Below W.heap.size W w' := by
 have hS := hP.shown hm
 obtain ⟨A, c, h1, h2⟩ := hS.cell
 exact kind_any b d.shows A c p W hS.glob h1 h2 hS.len hS.ord hS.short (by omega)
theorem Prog.full (hP : Prog W0 W b vl vs vq d m) (hm : m ≤ 900000) (p : ByteArray) (s : Nat) (hs : s ≤ 1000000) :
  Calls Tryz.prog 60 #[.pointer (some ⟨b, 0, none⟩), .string p, .int .i64 s] W fun e w' => e = .returned (.bool (decide (d.limit < (s : Int) + sumO d.shows p))) ∧ Below W.heap.size W w' := by
 have hS := hP.shown hm
 obtain ⟨A, c, h1, h2⟩ := hS.cell
 have := full_any b d.shows A c p s d.limit W h1 hP.at_.c3 h2 hS.len (fun x hx => by have := hS.data x hx; omega) (by omega) (by omega)
 rw [sumP_sumO] at this
 exact this
theorem Prog.real (hP : Prog W0 W b vl vs vq d m) (hm : m ≤ 900000) (p : ByteArray) (hp : p.size ≤ 10000) :
  Calls Tryz.prog 16 #[.pointer (some ⟨b, 0, none⟩), .string p] W fun e w' => e = .returned (.tuple #[.string (realP d.shows p).1, .int .i64 (realP d.shows p).2]) ∧ Below W.heap.size W w' := real_any d.shows W b p (hP.shown hm) hp
theorem Prog.waitP (hP : Prog W0 W b vl vs vq d m) (hm : m ≤ 900000) (pa tp : ByteArray) (kd mo ui gi mt at_ : Int) (da : ByteArray) (hp : pa.size ≤ 100000) :
  Calls Tryz.prog 61 #[.pointer (some ⟨b, 0, none⟩), .agg #[.int .i64 0, .string pa, .string tp, .int .i64 kd, .int .u32 mo, .int .u32 ui, .int .u32 gi, .int .i64 mt, .int .i64 at_, .string da, .bool false]] W (OpPost W0 W b vl vs vq (0, endD (waitD d (0, pa, tp, (kd, mo, ui, gi, mt, at_, da), false)))) := by
 have hr := Trees.shows hP.trees
 have hb := hP.bnd.shows
 have hl := hP.bnd.len
 have hst := hP.bnd.steps
 refine (wait_by W0 b vl vs vq d 0 pa tp kd mo ui gi mt at_ da W hP.low hP.at_ (fun W' hb' h' => done_put W0 hP.glob vs d.shows pa tp kd mo ui gi mt at_ da false W' hb' h' (by omega) (fun x hx => by have := right_size hr x hx; omega) (right_strict hr) (by omega)) hP.bnd.fuse hst.1 (by omega) (by omega)).mono ?_
 rintro e w' ⟨rfl, ⟨v1, v2, h1, h2⟩, _⟩
 exact ⟨rfl, vl, v1, v2, h1, h2⟩
theorem OpPost.pre {r : Int × Dk} {e : Ending} {w' : World} (h : Still W W1 (Owns b vl vs vq) (Owns b vl vs vq)) (k : OpPost W0 W1 b vl vs vq r e w') : OpPost W0 W b vl vs vq r e w' := by
 obtain ⟨rfl, v1, v2, v3, h1, h2⟩ := k
 exact ⟨rfl, v1, v2, v3, h1, h.trans h2⟩
theorem OpPost.same {r : Int} {w' : World} (h : Still W W1 (Owns b vl vs vq) (Owns b vl vs vq)) (k : DkAt W1 W0.heap.size b vl vs vq d) : OpPost W0 W b vl vs vq (r, d) (.returned (.int .i64 r)) W1 := ⟨rfl, vl, vs, vq, k, h⟩
end
theorem and_rights (mo : Int) : Go.bits .and .u32 mo 4095 = masked mo := by
 have e : Go.bits .and .u32 mo 4095 = IntKind.u32.wrap (((BitVec.ofInt 32 mo) &&& (BitVec.ofInt 32 4095)).toNat : Int) := rfl
 rw [e, BitVec.toNat_and, show (BitVec.ofInt 32 4095).toNat = 2 ^ 12 - 1 by decide, Nat.and_two_pow_sub_one_eq_mod, BitVec.toNat_ofInt]
 simp only [IntKind.wrap, IntKind.bits, IntKind.signed]
 simp only [Bool.false_and, if_neg (Bool.false_ne_true)]
 unfold masked
 omega
end Go.Proofs.YtibmfjacfbpfgaaGreatDoor.DState
namespace Go.Proofs.YtibmfjacfbpfgaaGreatDoor.DMake
open Go.RowKit YtibmfjacfbpfgaaGreatDoorW.PrintWords YtibmfjacfbpfgaaGreatDoorW.PrintLast YtibmfjacfbpfgaaGreatDoorW.PrintMore NameLaw NameCmp NameWalk NameRef NameKeepLaw NodeRes YtibmfjacfbpfgaaGreatDoor.Item Own TreeLaw TreeNodes SortIns SortSwap FillLaw DiffLaw RealLaw DoneLaw KeepLaw OpLaw OpKeep JoinLaw DAt StepA Step Real DSmall DRows DDone DWait DkLaw OwnLeaf DState
set_option maxHeartbeats 8000000 in
set_option maxRecDepth 100000 in
theorem make_any (W0 W : World) (b : Nat) (vl vs vq : Value) (d : Dk) (m : Nat) (hP : Prog W0 W b vl vs vq d m) (hm : m ≤ 900000) (path : ByteArray) (hp : path.size ≤ 10000) (kd mo ui gi mt at_ : Int) (da : ByteArray) (hda : da.size ≤ 100000) :
  Calls Tryz.prog 17 #[.pointer (some ⟨b, 0, none⟩), .string path, .agg #[.int .i64 kd, .int .u32 mo, .int .u32 ui, .int .u32 gi, .int .i64 mt, .int .i64 at_, .string da]] W (OpPost W0 W b vl vs vq (opD nzP d 0 path ⟨#[]⟩ (kd, mo, ui, gi, mt, at_, da))) := by
 have hmo := and_rights mo
 have HDS := Lib.hid (show da.size = da.data.toList.length from (len_data da).symm)
 have hb1 := below_one W (.cells #[.int .i64 kd, .int .u32 mo, .int .u32 ui, .int .u32 gi, .int .i64 mt, .int .i64 at_, .string da] 34)
 have HN1 := Lib.hid (heap_new W (.cells #[.int .i64 kd, .int .u32 mo, .int .u32 ui, .int .u32 gi, .int .i64 mt, .int .i64 at_, .string da] 34))
 have HP1 := Lib.hid (hP.below hb1)
 have HS1 := Lib.hid (Still.below hb1 (Owns b vl vs vq))
 have HOW := Lib.hid (owns_lt hP.at_)
 have HW0 := Lib.hid hP.low.size
 have hbb := hP.at_.lt
 clear hb1
 have HBG := Lib.hid (begin_any W0.heap.size b vl vs vq d _ HP1.out.at_ hP.bnd.fuse hP.bnd.fail)
 by_cases hr : (beginD d).1 = 0
 ·
  have HL0 := Lib.hid (fun h => op_fell (nz := nzP) hr rfl (own_real nzP (beginD d).2 0 path ⟨#[]⟩ (kd, mo, ui, gi, mt, at_, da) (by decide) h) h)
  have HL1 := Lib.hid (fun h h1 => op_fell (nz := nzP) hr rfl (make_kind nzP (beginD d).2 path ⟨#[]⟩ (kd, mo, ui, gi, mt, at_, da) h h1) (by decide))
  have HL2 := Lib.hid (fun h h1 h2 => op_fell (nz := nzP) hr rfl (make_there nzP (beginD d).2 path ⟨#[]⟩ (kd, mo, ui, gi, mt, at_, da) h h1 h2) (by decide))
  have HL3 := Lib.hid (fun h h1 h2 h3 => op_fell (nz := nzP) hr rfl (make_full nzP (beginD d).2 path ⟨#[]⟩ (kd, mo, ui, gi, mt, at_, da) h h1 h2 h3) (by decide))
  have HL4 := Lib.hid (fun h h1 h2 h3 => op_done (nz := nzP) hr rfl (make_ok nzP (beginD d).2 path ⟨#[]⟩ (kd, mo, ui, gi, mt, at_, da) h h1 h2 h3))
  generalize opD nzP d 0 path ⟨#[]⟩ (kd, mo, ui, gi, mt, at_, da) = X at *
  have HPB := Lib.hid (fun W2 h1 h2 => HP1.out.begun (W1 := W2) h1 h2)
  rw [hr] at HBG
  have HSZ := Lib.hid (real_small (s := (beginD d).2.shows) (path := path))
  clear hr hP HP1
  generalize (beginD d).2 = d1 at *
  go_enter Tryz.func17, Tryz.ntmps17
  go_wp2_with fail
  generalize W.alloc (.cells #[.int .i64 kd, .int .u32 mo, .int .u32 ui, .int .u32 gi, .int .i64 mt, .int .i64 at_, .string da] 34) = W1 at *
  obtain ⟨bn, hbn⟩ : ∃ bn, bn = W.heap.size := ⟨_, rfl⟩
  rw [← hbn] at HN1 ⊢
  have hbn2 : W.heap.size ≤ bn := by omega
  clear hbn
  refine HBG.out.mono ?_
  rintro e w2 ⟨rfl, hd2, hg2⟩
  have HP2 := Lib.hid (HPB.out w2 hd2 hg2)
  have HS2 := Lib.hid (HS1.out.trans (still_own vl vs vq hg2))
  have HN2 := Lib.hid ((hg2.block bn (Array.getElem?_eq_some_iff.1 HN1.out).1 (fun e => by injection e with e; omega)).trans HN1.out)
  clear HN1
  clear hd2 hg2 HBG HPB HS1
  have HR2 := Lib.hid (HP2.out.real hm path hp)
  generalize realP d1.shows path = R at *
  obtain ⟨R0, R1⟩ := R
  go_wp2_with fail
  refine HR2.out.mono ?_
  rintro e w3 ⟨rfl, hb3⟩
  have HP3 := Lib.hid (HP2.out.below hb3)
  have HS3 := Lib.hid (HS2.out.trans (Still.below hb3 _))
  have HN3 := Lib.hid ((hb3.block bn (Array.getElem?_eq_some_iff.1 HN2.out).1).trans HN2.out)
  clear hb3
  clear HR2
  skip
  have n1 : w3.cell? ⟨bn, 1, none⟩ = some (.int .u32 mo) := by rw [cell_of HN3.out]; rfl
  have z1 : w3.frozen? ⟨bn, 1, none⟩ = false := frozen_of HN3.out 1
  have HN4 := Lib.hid (blk_put HN3.out 1 (.int .u32 (masked mo)) rfl)
  have HP4 := Lib.hid (HP3.out.far (g := bn) (fun k hk => by have := HOW.out k hk; omega) (by have := HW0.out; omega) 1 (.int .u32 (masked mo)))
  have HS4 := Lib.hid (still_new HS3.out (g := bn) (by omega) 1 (.int .u32 (masked mo)))
  have g0 : (w3.setCell ⟨bn, 1, none⟩ (.int .u32 (masked mo))).cell? ⟨bn, 0, none⟩ = some (.int .i64 kd) := by rw [cell_of HN4.out]; rfl
  have g1 : (w3.setCell ⟨bn, 1, none⟩ (.int .u32 (masked mo))).cell? ⟨bn, 1, none⟩ = some (.int .u32 (masked mo)) := by rw [cell_of HN4.out]; rfl
  have g2 : (w3.setCell ⟨bn, 1, none⟩ (.int .u32 (masked mo))).cell? ⟨bn, 2, none⟩ = some (.int .u32 ui) := by rw [cell_of HN4.out]; rfl
  have g3 : (w3.setCell ⟨bn, 1, none⟩ (.int .u32 (masked mo))).cell? ⟨bn, 3, none⟩ = some (.int .u32 gi) := by rw [cell_of HN4.out]; rfl
  have g4 : (w3.setCell ⟨bn, 1, none⟩ (.int .u32 (masked mo))).cell? ⟨bn, 4, none⟩ = some (.int .i64 mt) := by rw [cell_of HN4.out]; rfl
  have g5 : (w3.setCell ⟨bn, 1, none⟩ (.int .u32 (masked mo))).cell? ⟨bn, 5, none⟩ = some (.int .i64 at_) := by rw [cell_of HN4.out]; rfl
  have g6 : (w3.setCell ⟨bn, 1, none⟩ (.int .u32 (masked mo))).cell? ⟨bn, 6, none⟩ = some (.string da) := by rw [cell_of HN4.out]; rfl
  by_cases her : R1 = 0
  ·
   subst her
   have hsz := HSZ.out rfl
   by_cases k1 : kd < 1
   ·
    have HX := Lib.hid (HL1.out rfl (show kd < 1 ∨ 3 < kd ∨ (kd = 1 ∧ 0 < da.size) by omega))
    go_wp2
    go_ret
    exact ⟨by rw [HX.out]; rfl, vl, vs, vq, by rw [HX.out]; exact HP4.out.at_, HS4.out⟩
   ·
    by_cases k2 : 3 < kd
    ·
     have HX := Lib.hid (HL1.out rfl (show kd < 1 ∨ 3 < kd ∨ (kd = 1 ∧ 0 < da.size) by omega))
     go_wp2
     go_ret
     exact ⟨by rw [HX.out]; rfl, vl, vs, vq, by rw [HX.out]; exact HP4.out.at_, HS4.out⟩
    ·
     by_cases k3 : kd = 1
     ·
      subst k3
      by_cases k5 : da.toList = []
      ·
       have k6 : da.toList.isEmpty = true := by rw [k5]; rfl
       have k7 : da.size = 0 := by rw [HDS.out, ← Lib.toList_data, k5]; rfl
       have k8 : (da.toList == []) = true := by rw [k5]; rfl
       have HNB := Lib.hid (show ¬ ((1 : Int) < 1 ∨ 3 < (1 : Int) ∨ ((1 : Int) = 1 ∧ 0 < da.size)) by omega)
       replace HL2 := Lib.hid (HL2.out rfl HNB.out)
       replace HL3 := Lib.hid (HL3.out rfl HNB.out)
       replace HL4 := Lib.hid (HL4.out rfl HNB.out)
       clear HNB
       have HK := Lib.hid (HP4.out.kind hm R0 (by omega))
       skip
       generalize kindOf d1.shows R0 = KK at *
       go_wp2_with fail
       generalize w3.setCell ⟨bn, 1, none⟩ (.int .u32 (masked mo)) = w4 at *
       refine HK.out.mono ?_
       rintro e w5 ⟨rfl, hb5⟩
       have HP5 := Lib.hid (HP4.out.below hb5)
       have HS5 := Lib.hid (HS4.out.trans (Still.below hb5 _))
       have HN5 := Lib.hid ((hb5.block bn (Array.getElem?_eq_some_iff.1 HN4.out).1).trans HN4.out)
       clear hb5
       clear HK g0 g1 g2 g3 g4 g5 g6 k5 k6 k7 k8
       have g6 : w5.cell? ⟨bn, 6, none⟩ = some (.string da) := by rw [cell_of HN5.out]; rfl
       by_cases hkk : KK = 0
       ·
        subst hkk
        have HFU := Lib.hid (HP5.out.full hm R0 da.size (by omega))
        replace HL3 := Lib.hid (HL3.out rfl)
        replace HL4 := Lib.hid (HL4.out rfl)
        obtain ⟨FB, hFB⟩ : ∃ FB, FB = decide (d1.limit < (da.size : Int) + sumO d1.shows R0) := ⟨_, rfl⟩
        rw [← hFB] at HFU
        have HFB := Lib.hid hFB
        clear hFB
        go_wp2_with fail
        with_reducible refine HFU.out.mono ?_
        rintro e w6 ⟨rfl, hb6⟩
        have HP6 := Lib.hid (HP5.out.below hb6)
        have HS6 := Lib.hid (HS5.out.trans (Still.below hb6 _))
        have HN6 := Lib.hid ((hb6.block bn (Array.getElem?_eq_some_iff.1 HN5.out).1).trans HN5.out)
        clear hb6
        clear HFU g6
        cases FB with
        | true =>
         have HX := Lib.hid (HL3.out (of_decide_eq_true HFB.out.symm))
         go_wp2
         go_ret
         exact ⟨by rw [HX.out]; rfl, vl, vs, vq, by rw [HX.out]; exact HP6.out.at_, HS6.out⟩
        | false =>
         have HX := Lib.hid (HL4.out (by have := of_decide_eq_false HFB.out.symm; omega))
         have HW := Lib.hid (HP6.out.waitP hm R0 ⟨#[]⟩ 1 (masked mo) ui gi mt at_ da (by omega))
         have g0 : w6.cell? ⟨bn, 0, none⟩ = some (.int .i64 1) := by rw [cell_of HN6.out]; rfl
         have g1 : w6.cell? ⟨bn, 1, none⟩ = some (.int .u32 (masked mo)) := by rw [cell_of HN6.out]; rfl
         have g2 : w6.cell? ⟨bn, 2, none⟩ = some (.int .u32 ui) := by rw [cell_of HN6.out]; rfl
         have g3 : w6.cell? ⟨bn, 3, none⟩ = some (.int .u32 gi) := by rw [cell_of HN6.out]; rfl
         have g4 : w6.cell? ⟨bn, 4, none⟩ = some (.int .i64 mt) := by rw [cell_of HN6.out]; rfl
         have g5 : w6.cell? ⟨bn, 5, none⟩ = some (.int .i64 at_) := by rw [cell_of HN6.out]; rfl
         have g6 : w6.cell? ⟨bn, 6, none⟩ = some (.string da) := by rw [cell_of HN6.out]; rfl
         go_wp2_with fail
         refine HW.out.mono ?_
         rintro e w7 hp7
         have HF := Lib.hid (OpPost.pre HS6.out hp7)
         obtain ⟨rfl, _⟩ := hp7
         clear HW g0 g1 g2 g3 g4 g5 g6
         go_wp2
         go_ret
         rw [HX.out]
         exact HF.out
       ·
        have q0 : (KK == 0) = false := beq_eq_false_iff_ne.2 hkk
        have q1 : (KK != 0) = true := bne_iff_ne.2 hkk
        have HX := Lib.hid (HL2.out hkk)
        go_wp2
        go_ret
        exact ⟨by rw [HX.out]; rfl, vl, vs, vq, by rw [HX.out]; exact HP5.out.at_, HS5.out⟩
      ·
       have k6 : da.toList.isEmpty = false := by simp [k5]
       have k7 : 0 < da.size := by rw [HDS.out, ← Lib.toList_data]; exact List.length_pos_iff.2 k5
       have HX := Lib.hid (HL1.out rfl (show (1 : Int) < 1 ∨ 3 < (1 : Int) ∨ ((1 : Int) = 1 ∧ 0 < da.size) by omega))
       go_wp2
       go_ret
       exact ⟨by rw [HX.out]; rfl, vl, vs, vq, by rw [HX.out]; exact HP4.out.at_, HS4.out⟩
     ·
      have k4 : (kd == 1) = false := beq_eq_false_iff_ne.2 k3
      have HNB := Lib.hid (show ¬ (kd < 1 ∨ 3 < kd ∨ (kd = 1 ∧ 0 < da.size)) by omega)
      replace HL2 := Lib.hid (HL2.out rfl HNB.out)
      replace HL3 := Lib.hid (HL3.out rfl HNB.out)
      replace HL4 := Lib.hid (HL4.out rfl HNB.out)
      clear HNB
      have HK := Lib.hid (HP4.out.kind hm R0 (by omega))
      skip
      generalize kindOf d1.shows R0 = KK at *
      go_wp2_with fail
      generalize w3.setCell ⟨bn, 1, none⟩ (.int .u32 (masked mo)) = w4 at *
      refine HK.out.mono ?_
      rintro e w5 ⟨rfl, hb5⟩
      have HP5 := Lib.hid (HP4.out.below hb5)
      have HS5 := Lib.hid (HS4.out.trans (Still.below hb5 _))
      have HN5 := Lib.hid ((hb5.block bn (Array.getElem?_eq_some_iff.1 HN4.out).1).trans HN4.out)
      clear hb5
      clear HK g0 g1 g2 g3 g4 g5 g6
      have g6 : w5.cell? ⟨bn, 6, none⟩ = some (.string da) := by rw [cell_of HN5.out]; rfl
      by_cases hkk : KK = 0
      ·
       subst hkk
       have HFU := Lib.hid (HP5.out.full hm R0 da.size (by omega))
       replace HL3 := Lib.hid (HL3.out rfl)
       replace HL4 := Lib.hid (HL4.out rfl)
       obtain ⟨FB, hFB⟩ : ∃ FB, FB = decide (d1.limit < (da.size : Int) + sumO d1.shows R0) := ⟨_, rfl⟩
       rw [← hFB] at HFU
       have HFB := Lib.hid hFB
       clear hFB
       go_wp2_with fail
       with_reducible refine HFU.out.mono ?_
       rintro e w6 ⟨rfl, hb6⟩
       have HP6 := Lib.hid (HP5.out.below hb6)
       have HS6 := Lib.hid (HS5.out.trans (Still.below hb6 _))
       have HN6 := Lib.hid ((hb6.block bn (Array.getElem?_eq_some_iff.1 HN5.out).1).trans HN5.out)
       clear hb6
       clear HFU g6
       cases FB with
       | true =>
        have HX := Lib.hid (HL3.out (of_decide_eq_true HFB.out.symm))
        go_wp2
        go_ret
        exact ⟨by rw [HX.out]; rfl, vl, vs, vq, by rw [HX.out]; exact HP6.out.at_, HS6.out⟩
       | false =>
        have HX := Lib.hid (HL4.out (by have := of_decide_eq_false HFB.out.symm; omega))
        have HW := Lib.hid (HP6.out.waitP hm R0 ⟨#[]⟩ kd (masked mo) ui gi mt at_ da (by omega))
        have g0 : w6.cell? ⟨bn, 0, none⟩ = some (.int .i64 kd) := by rw [cell_of HN6.out]; rfl
        have g1 : w6.cell? ⟨bn, 1, none⟩ = some (.int .u32 (masked mo)) := by rw [cell_of HN6.out]; rfl
        have g2 : w6.cell? ⟨bn, 2, none⟩ = some (.int .u32 ui) := by rw [cell_of HN6.out]; rfl
        have g3 : w6.cell? ⟨bn, 3, none⟩ = some (.int .u32 gi) := by rw [cell_of HN6.out]; rfl
        have g4 : w6.cell? ⟨bn, 4, none⟩ = some (.int .i64 mt) := by rw [cell_of HN6.out]; rfl
        have g5 : w6.cell? ⟨bn, 5, none⟩ = some (.int .i64 at_) := by rw [cell_of HN6.out]; rfl
        have g6 : w6.cell? ⟨bn, 6, none⟩ = some (.string da) := by rw [cell_of HN6.out]; rfl
        go_wp2_with fail
        refine HW.out.mono ?_
        rintro e w7 hp7
        have HF := Lib.hid (OpPost.pre HS6.out hp7)
        obtain ⟨rfl, _⟩ := hp7
        clear HW g0 g1 g2 g3 g4 g5 g6
        go_wp2
        go_ret
        rw [HX.out]
        exact HF.out
      ·
       have q0 : (KK == 0) = false := beq_eq_false_iff_ne.2 hkk
       have q1 : (KK != 0) = true := bne_iff_ne.2 hkk
       have HX := Lib.hid (HL2.out hkk)
       go_wp2
       go_ret
       exact ⟨by rw [HX.out]; rfl, vl, vs, vq, by rw [HX.out]; exact HP5.out.at_, HS5.out⟩
  ·
   have q0 : (R1 == 0) = false := beq_eq_false_iff_ne.2 her
   have q1 : (R1 != 0) = true := bne_iff_ne.2 her
   have HX := Lib.hid (HL0.out her)
   go_wp2
   go_ret
   exact ⟨by rw [HX.out]; rfl, vl, vs, vq, by rw [HX.out]; exact HP4.out.at_, HS4.out⟩
 ·
  have q0 : ((beginD d).1 == 0) = false := beq_eq_false_iff_ne.2 hr
  have q1 : ((beginD d).1 != 0) = true := bne_iff_ne.2 hr
  rw [op_stop hr]
  clear hr
  generalize beginD d = X at *
  obtain ⟨r0, d1⟩ := X
  skip
  go_enter Tryz.func17, Tryz.ntmps17
  go_wp2_with fail
  generalize W.alloc (.cells #[.int .i64 kd, .int .u32 mo, .int .u32 ui, .int .u32 gi, .int .i64 mt, .int .i64 at_, .string da] 34) = W1 at *
  refine HBG.out.mono ?_
  rintro e w2 ⟨rfl, hd2, hg2⟩
  have HF := Lib.hid (And.intro hd2 (HS1.out.trans (still_own vl vs vq hg2)))
  clear hd2 hg2 HBG HS1
  go_wp2
  go_ret
  exact ⟨rfl, vl, vs, vq, HF.out.1, HF.out.2⟩
end Go.Proofs.YtibmfjacfbpfgaaGreatDoor.DMake
namespace Go.Proofs.YtibmfjacfbpfgaaGreatDoor.DList
open Go.RowKit YtibmfjacfbpfgaaGreatDoorW.PrintWords YtibmfjacfbpfgaaGreatDoorW.PrintLast YtibmfjacfbpfgaaGreatDoorW.PrintMore NameLaw NameCmp NameWalk NameRef NameKeepLaw NodeRes YtibmfjacfbpfgaaGreatDoor.Item Own TreeLaw TreeNodes SortIns SortSwap FillLaw DiffLaw RealLaw DoneLaw KeepLaw OpLaw OpKeep JoinLaw DAt StepA Step Real DSmall DRows DDone DWait DkLaw DState NameUse RealKeep
def lsP (r : ByteArray) (l : List It) : List ByteArray := (l.filter (fun x => decide (parentT x.1 = r))).map (fun x => baseT x.1)
theorem lsP_step (r : ByteArray) {l : List It} {k : Nat} (hk : k < l.length) : lsP r (l.take (k + 1)) = lsP r (l.take k) ++ (if parentT l[k].1 = r then [baseT l[k].1] else []) := by
 unfold lsP
 rw [List.take_succ_eq_append_getElem hk, List.filter_append, List.map_append, List.filter_cons]
 by_cases h : parentT l[k].1 = r
 ·
  rw [if_pos (by simpa using h), if_pos h]; rfl
 ·
  rw [if_neg (by simpa using h), if_neg h]; rfl
def whereP (s : List It) (path : ByteArray) : ByteArray × Int := if path.data.toList = [] then (⟨#[]⟩, 0) else realP s path
def listP (s : List It) (path : ByteArray) : List ByteArray × Int := if (whereP s path).2 ≠ 0 then ([], (whereP s path).2) else if kindOf s (whereP s path).1 = 0 then ([], 40) else if kindOf s (whereP s path).1 ≠ 1 then ([], 42) else (lsP (whereP s path).1 s, 0)
theorem list_err {s : List It} {path : ByteArray} (h : (whereP s path).2 ≠ 0) : listP s path = ([], (whereP s path).2) := if_pos h
theorem list_none {s : List It} {path : ByteArray} (h : (whereP s path).2 = 0) (h1 : kindOf s (whereP s path).1 = 0) : listP s path = ([], 40) := (if_neg (fun e : ¬ _ => e h)).trans (if_pos h1)
theorem list_kind {s : List It} {path : ByteArray} (h : (whereP s path).2 = 0) (h1 : ¬ kindOf s (whereP s path).1 = 0) (h2 : kindOf s (whereP s path).1 ≠ 1) : listP s path = ([], 42) := (if_neg (fun e : ¬ _ => e h)).trans ((if_neg h1).trans (if_pos h2))
theorem list_ok {s : List It} {path : ByteArray} (h : (whereP s path).2 = 0) (h2 : kindOf s (whereP s path).1 = 1) : listP s path = (lsP (whereP s path).1 s, 0) := (if_neg (fun e : ¬ _ => e h)).trans ((if_neg (by rw [h2]; decide)).trans (if_neg (fun e => e h2)))
theorem real_le {s : List It} {path : ByteArray} : (realP s path).1.size ≤ 70000 := by
 have h0 : (⟨#[]⟩ : ByteArray).size ≤ 70000 := by decide
 unfold realP
 split
 ·
  exact h0
 ·
  simp only
  split
  ·
   exact h0
  ·
   split
   ·
    exact h0
   ·
    rename_i h
    exact Nat.le_trans (check_size (Classical.not_not.1 h)) (by decide)
theorem where_le {s : List It} {path : ByteArray} : (whereP s path).1.size ≤ 70000 := by
 unfold whereP
 split
 ·
  decide
 ·
  exact real_le
set_option maxHeartbeats 8000000 in
set_option maxRecDepth 100000 in
theorem list_some (W0 W : World) (b : Nat) (vl vs vq : Value) (d : Dk) (m : Nat) (hP : Prog W0 W b vl vs vq d m) (hm : m ≤ 900000) (path : ByteArray) (hp : path.size ≤ 10000) (h0 : path.toList ≠ []) :
  Calls Tryz.prog 33 #[.pointer (some ⟨b, 0, none⟩), .string path] W fun e w' => ∃ v1, e = .returned (.tuple #[v1, .int .i64 (listP d.shows path).2]) ∧ Kd.string.R 9 w' W.heap.size (fun _ => True) v1 (listP d.shows path).1 ∧ Below W.heap.size W w' := by
 have HL0 := Lib.hid (list_err (s := d.shows) (path := path))
 have HL1 := Lib.hid (list_none (s := d.shows) (path := path))
 have HL2 := Lib.hid (list_kind (s := d.shows) (path := path))
 have HL3 := Lib.hid (list_ok (s := d.shows) (path := path))
 have HSZ := Lib.hid (where_le (s := d.shows) (path := path))
 generalize listP d.shows path = X at *
 have hd : path.toList.isEmpty = false := by simp [h0]
 have hd2 : (path.toList == []) = false := by simpa using h0
 have hw : whereP d.shows path = realP d.shows path := if_neg (by rw [← Lib.toList_data]; exact h0)
 have HR := Lib.hid (hP.real hm path hp)
 rw [← hw] at HR
 have HP1 := Lib.hid hP
 clear hP hw
 generalize whereP d.shows path = R at *
 obtain ⟨r, er⟩ := R
 skip
 go_enter Tryz.func33, Tryz.ntmps33
 go_wp2_with fail
 refine HR.out.mono ?_
 rintro e w2 ⟨rfl, hb2⟩
 have HP2 := Lib.hid (HP1.out.below hb2)
 have HB2 := Lib.hid hb2
 clear hb2 HR HP1
 have hsz := HSZ.out
 by_cases her : er = 0
 ·
  subst her
  replace HL1 := Lib.hid (HL1.out rfl)
  replace HL2 := Lib.hid (HL2.out rfl)
  replace HL3 := Lib.hid (HL3.out rfl)
  have HK := Lib.hid (HP2.out.kind hm r (by omega))
  generalize kindOf d.shows r = KK at *
  go_wp2_with fail
  refine HK.out.mono ?_
  rintro e w3 ⟨rfl, hb3⟩
  have HP3 := Lib.hid (HP2.out.below hb3)
  have HB3 := Lib.hid (below_next HB2.out hb3)
  clear hb3 HK HL0 HSZ
  by_cases hkk : KK = 0
  ·
   subst hkk
   have HX := Lib.hid (HL1.out rfl)
   go_wp2
   go_ret2
   exact ⟨.slice none 0 0, by rw [HX.out]; rfl, by rw [HX.out]; exact Kd.R_nil _ _ _ _ _, HB3.out⟩
  ·
   have q0 : (KK == 0) = false := beq_eq_false_iff_ne.2 hkk
   by_cases hk1 : KK = 1
   ·
    subst hk1
    have HX := Lib.hid (HL3.out rfl)
    clear HL1 HL2 HL3
    obtain ⟨As, cs, hcs, hIs⟩ := (HP3.out.shown hm).cell
    have HSP := Lib.hid (HP3.out.shown hm).paths
    have HIs := Lib.hid hIs
    have hlen := (HP3.out.shown hm).len
    clear hIs HP3
    have HL0 : Hid (lsP r (d.shows.take 0) = []) := Lib.hid rfl
    generalize d.shows = s at *
    go_wp2
    go_loopw [9, 40] (fun v i wr => ∃ k : Nat, k ≤ s.length ∧ i = .int .i64 k ∧ Hid (Kd.string.R 9 wr w3.heap.size (fun _ => True) v (lsP r (s.take k))) ∧ Hid (Below w3.heap.size w3 wr)) (fun v i _ => s.length - (intOf i).toNat)
    case atStart => exact ⟨0, Nat.zero_le _, rfl, by rw [HL0.out]; exact Lib.hid (Kd.R_nil _ _ _ _ _), Lib.hid (Below.refl _ _)⟩
    case round =>
     obtain ⟨k, hk, rfl, HV, HT⟩ := hrel
     obtain ⟨A, c, hv⟩ := Kd.R_slice HV.out
     subst hv
     by_cases hlt : k < s.length
     ·
      obtain ⟨ad, rfl, e0, e1, e2, e3, e4, e5, e6, e7⟩ := item_at (Kd.C_below HIs.out HT.out) hlt
      have hltI : (k : Int) < s.length := by omega
      have HSTP := Lib.hid (lsP_step r hlt)
      have hsz := HSP.out _ (List.getElem_mem hlt)
      generalize s[k] = x at *
      obtain ⟨x0, x1, x2, x3, x4, x5, x6, x7⟩ := x
      simp only at e0 e1 e2 e3 e4 e5 e6 e7 hsz
      obtain ⟨L, hL⟩ : ∃ L, L = lsP r (s.take k) := ⟨_, rfl⟩
      rw [← hL] at HV HSTP ⊢
      have hLl : L.length ≤ k := by rw [hL]; unfold lsP; rw [List.length_map]; exact Nat.le_trans (List.length_filter_le _ _) (by rw [List.length_take]; omega)
      clear hL
      have hb5 := below_one wr (.cells #[.string x0, .int .i64 x1, .int .u32 x2, .int .u32 x3, .int .u32 x4, .int .i64 x5, .int .i64 x6, .string x7] 77)
      have c0 : (wr.alloc (.cells #[.string x0, .int .i64 x1, .int .u32 x2, .int .u32 x3, .int .u32 x4, .int .i64 x5, .int .i64 x6, .string x7] 77)).cell? ⟨wr.heap.size, 0, none⟩ = some (.string x0) := by rw [cell_of (heap_new wr _)]; rfl
      have HV5 := Lib.hid (Kd.R_below HV.out hb5)
      have HT5 := Lib.hid (below_next HT.out hb5)
      clear hb5 HV HT
      go_wp2_with fail
      generalize wr.alloc (.cells #[.string x0, .int .i64 x1, .int .u32 x2, .int .u32 x3, .int .u32 x4, .int .i64 x5, .int .i64 x6, .string x7] 77) = w5 at *
      generalize wr.heap.size = bx at *
      refine (parent_next (Lib.hid (Below.refl _ w5)) x0 (by omega)).mono ?_
      rintro e w6 ⟨rfl, HB6⟩
      have c6 := pw_cell_below HB6.out c0
      have HV6 := Lib.hid (Kd.R_below HV5.out HB6.out)
      have HTW := Lib.hid (below_next HT5.out HB6.out)
      clear c0 HB6 HV5 HT5 e0 e1 e2 e3 e4 e5 e6 e7
      by_cases hpa : parentT x0 = r
      ·
       have qp : ((parentT x0).toList == r.toList) = true := by rw [hpa]; simp
       have HSQ : Hid (lsP r (s.take (k + 1)) = L ++ [baseT x0]) := Lib.hid (by rw [HSTP.out]; exact congrArg (L ++ ·) (if_pos hpa))
       clear HSTP hpa
       go_wp2_with fail
       refine (base_next (Lib.hid (Below.refl _ w6)) x0 (by omega)).mono ?_
       rintro e w7 ⟨rfl, HB7⟩
       have HV7 := Lib.hid (Kd.R_below HV6.out HB7.out)
       have HT8 := Lib.hid (below_next HTW.out HB7.out)
       clear HB7 HV6 HTW c6
       generalize baseT x0 = bb at *
       go_wp2_with ((with_reducible refine gate_builtin (b := .append) (xs := #[.tmp 49, .tmp 53]) rfl ?_); at_builtin; refine Kd.R_append Kd.string (w0 := w3) w3.heap.size rfl (.tmp 49) (.tmp 53) 61 9 (.string ByteArray.empty) 16 rfl Tryz.underlying61 infoStr rfl (by decide) (by decide) (.slice A L.length c) L bb [.string bb] (fun _ => True) (fun _ => False) rfl (by first | rfl | (simp; done) | (simp; rfl)) ?aP (fun _ hk => hk.elim) ?aF ?aO ?aB ?aS ?aL ?_; skip)
       case aP => exact rfl
       case aB => exact HT8.out
       case aF => exact (fun _ _ => trivial)
       case aO => exact HV7.out
       case aS => exact HT8.out.size
       case aL => first | omega | (simp; done) | (simp; omega)
       intro v9 w9 ho hb5 hg5 hat5
       have HV9 := Lib.hid ho
       have HT9 := Lib.hid hb5
       clear ho hb5 hg5 hat5
       rw [← HSQ.out] at HV9
       go_wp2
       go_roundw
       case rel => exact ⟨k + 1, by omega, by go_num, HV9, HT9⟩
       case measure => simp [intOf]; omega
      ·
       have qp : ((parentT x0).toList == r.toList) = false := by rw [toList_inj]; exact decide_eq_false hpa
       have HSQ : Hid (lsP r (s.take (k + 1)) = L) := Lib.hid (by rw [HSTP.out]; exact (congrArg (L ++ ·) (if_neg hpa)).trans (List.append_nil L))
       clear HSTP hpa c6
       have HV8 : Hid (Kd.string.R 9 w6 w3.heap.size (fun _ => True) (.slice A L.length c) (lsP r (s.take (k + 1)))) := by rw [HSQ.out]; exact HV6
       clear HV6 HSQ
       go_wp2
       go_roundw
       case rel => exact ⟨k + 1, by omega, by go_num, HV8, HTW⟩
       case measure => simp [intOf]; omega
     ·
      have hj2 : ¬ (k : Int) < (s.length : Int) := by omega
      have hks : s.take k = s := List.take_of_length_le (by omega)
      rw [hks] at HV ⊢
      go_wp2
      go_ret2
      exact ⟨_, by rw [HX.out]; rfl, by rw [HX.out]; exact Kd.R_lower HV.out HB3.out.size, below_next HB3.out HT.out⟩
   ·
    have q1 : (KK == 1) = false := beq_eq_false_iff_ne.2 hk1
    have q2 : (KK != 1) = true := bne_iff_ne.2 hk1
    have HX := Lib.hid (HL2.out hkk hk1)
    go_wp2
    go_ret2
    exact ⟨.slice none 0 0, by rw [HX.out]; rfl, by rw [HX.out]; exact Kd.R_nil _ _ _ _ _, HB3.out⟩
 ·
  have q0 : (er == 0) = false := beq_eq_false_iff_ne.2 her
  have q1 : (er != 0) = true := bne_iff_ne.2 her
  have HX := Lib.hid (HL0.out her)
  have HK := Lib.hid (HP2.out.kind hm r (by omega))
  go_wp2_with fail
  refine HK.out.mono ?_
  rintro e w3 ⟨rfl, hb3⟩
  have HB3 := Lib.hid (below_next HB2.out hb3)
  clear hb3 HK
  go_wp2
  go_ret2
  exact ⟨.slice none 0 0, by rw [HX.out]; rfl, by rw [HX.out]; exact Kd.R_nil _ _ _ _ _, HB3.out⟩
set_option maxHeartbeats 8000000 in
set_option maxRecDepth 100000 in
theorem list_top (W0 W : World) (b : Nat) (vl vs vq : Value) (d : Dk) (m : Nat) (hP : Prog W0 W b vl vs vq d m) (hm : m ≤ 900000) (path : ByteArray) (hp : path.size ≤ 10000) (h0 : path.toList = []) :
  Calls Tryz.prog 33 #[.pointer (some ⟨b, 0, none⟩), .string path] W fun e w' => ∃ v1, e = .returned (.tuple #[v1, .int .i64 (listP d.shows path).2]) ∧ Kd.string.R 9 w' W.heap.size (fun _ => True) v1 (listP d.shows path).1 ∧ Below W.heap.size W w' := by
 have HL0 := Lib.hid (list_err (s := d.shows) (path := path))
 have HL1 := Lib.hid (list_none (s := d.shows) (path := path))
 have HL2 := Lib.hid (list_kind (s := d.shows) (path := path))
 have HL3 := Lib.hid (list_ok (s := d.shows) (path := path))
 have HSZ := Lib.hid (where_le (s := d.shows) (path := path))
 generalize listP d.shows path = X at *
 have hd : path.toList.isEmpty = true := by rw [h0]; rfl
 have hd2 : (path.toList == []) = true := by rw [h0]; rfl
 have hw : whereP d.shows path = (⟨#[]⟩, 0) := if_pos (by rw [← Lib.toList_data]; exact h0)
 rw [hw] at HL0 HL1 HL2 HL3 HSZ
 have HP2 := Lib.hid hP
 have HB2 := Lib.hid (Below.refl W.heap.size W)
 have HKT := Lib.hid (kind_nil d.shows ⟨#[]⟩ rfl)
 have HX := Lib.hid (HL3.out rfl HKT.out)
 have HK := Lib.hid (hP.kind hm ⟨#[]⟩ (by decide))
 rw [HKT.out] at HK
 clear hP hw h0 HL0 HL1 HL2 HL3 HSZ
 go_enter Tryz.func33, Tryz.ntmps33
 go_wp2_with fail
 refine HK.out.mono ?_
 rintro e w3 ⟨rfl, hb3⟩
 have HP3 := Lib.hid (HP2.out.below hb3)
 have HB3 := Lib.hid (below_next HB2.out hb3)
 clear hb3 HK HKT
 skip
 obtain ⟨As, cs, hcs, hIs⟩ := (HP3.out.shown hm).cell
 have HSP := Lib.hid (HP3.out.shown hm).paths
 have HIs := Lib.hid hIs
 have hlen := (HP3.out.shown hm).len
 clear hIs HP3
 have HL0 : Hid (lsP ⟨#[]⟩ (d.shows.take 0) = []) := Lib.hid rfl
 generalize d.shows = s at *
 go_wp2
 go_loopw [9, 40] (fun v i wr => ∃ k : Nat, k ≤ s.length ∧ i = .int .i64 k ∧ Hid (Kd.string.R 9 wr w3.heap.size (fun _ => True) v (lsP ⟨#[]⟩ (s.take k))) ∧ Hid (Below w3.heap.size w3 wr)) (fun v i _ => s.length - (intOf i).toNat)
 case atStart => exact ⟨0, Nat.zero_le _, rfl, by rw [HL0.out]; exact Lib.hid (Kd.R_nil _ _ _ _ _), Lib.hid (Below.refl _ _)⟩
 case round =>
  obtain ⟨k, hk, rfl, HV, HT⟩ := hrel
  obtain ⟨A, c, hv⟩ := Kd.R_slice HV.out
  subst hv
  by_cases hlt : k < s.length
  ·
   obtain ⟨ad, rfl, e0, e1, e2, e3, e4, e5, e6, e7⟩ := item_at (Kd.C_below HIs.out HT.out) hlt
   have hltI : (k : Int) < s.length := by omega
   have HSTP := Lib.hid (lsP_step ⟨#[]⟩ hlt)
   have hsz := HSP.out _ (List.getElem_mem hlt)
   generalize s[k] = x at *
   obtain ⟨x0, x1, x2, x3, x4, x5, x6, x7⟩ := x
   simp only at e0 e1 e2 e3 e4 e5 e6 e7 hsz
   obtain ⟨L, hL⟩ : ∃ L, L = lsP ⟨#[]⟩ (s.take k) := ⟨_, rfl⟩
   rw [← hL] at HV HSTP ⊢
   have hLl : L.length ≤ k := by rw [hL]; unfold lsP; rw [List.length_map]; exact Nat.le_trans (List.length_filter_le _ _) (by rw [List.length_take]; omega)
   clear hL
   have hb5 := below_one wr (.cells #[.string x0, .int .i64 x1, .int .u32 x2, .int .u32 x3, .int .u32 x4, .int .i64 x5, .int .i64 x6, .string x7] 77)
   have c0 : (wr.alloc (.cells #[.string x0, .int .i64 x1, .int .u32 x2, .int .u32 x3, .int .u32 x4, .int .i64 x5, .int .i64 x6, .string x7] 77)).cell? ⟨wr.heap.size, 0, none⟩ = some (.string x0) := by rw [cell_of (heap_new wr _)]; rfl
   have HV5 := Lib.hid (Kd.R_below HV.out hb5)
   have HT5 := Lib.hid (below_next HT.out hb5)
   clear hb5 HV HT
   go_wp2_with fail
   generalize wr.alloc (.cells #[.string x0, .int .i64 x1, .int .u32 x2, .int .u32 x3, .int .u32 x4, .int .i64 x5, .int .i64 x6, .string x7] 77) = w5 at *
   generalize wr.heap.size = bx at *
   refine (parent_next (Lib.hid (Below.refl _ w5)) x0 (by omega)).mono ?_
   rintro e w6 ⟨rfl, HB6⟩
   have c6 := pw_cell_below HB6.out c0
   have HV6 := Lib.hid (Kd.R_below HV5.out HB6.out)
   have HTW := Lib.hid (below_next HT5.out HB6.out)
   clear c0 HB6 HV5 HT5 e0 e1 e2 e3 e4 e5 e6 e7
   by_cases hpa : parentT x0 = ⟨#[]⟩
   ·
    have qp1 : (parentT x0).toList.isEmpty = true := by rw [hpa, Lib.toList_data]; rfl
    have qp2 : ((parentT x0).toList == []) = true := by rw [hpa, Lib.toList_data]; rfl
    have HSQ : Hid (lsP ⟨#[]⟩ (s.take (k + 1)) = L ++ [baseT x0]) := Lib.hid (by rw [HSTP.out]; exact congrArg (L ++ ·) (if_pos hpa))
    clear HSTP hpa
    go_wp2_with fail
    refine (base_next (Lib.hid (Below.refl _ w6)) x0 (by omega)).mono ?_
    rintro e w7 ⟨rfl, HB7⟩
    have HV7 := Lib.hid (Kd.R_below HV6.out HB7.out)
    have HT8 := Lib.hid (below_next HTW.out HB7.out)
    clear HB7 HV6 HTW c6
    generalize baseT x0 = bb at *
    go_wp2_with ((with_reducible refine gate_builtin (b := .append) (xs := #[.tmp 49, .tmp 53]) rfl ?_); at_builtin; refine Kd.R_append Kd.string (w0 := w3) w3.heap.size rfl (.tmp 49) (.tmp 53) 61 9 (.string ByteArray.empty) 16 rfl Tryz.underlying61 infoStr rfl (by decide) (by decide) (.slice A L.length c) L bb [.string bb] (fun _ => True) (fun _ => False) rfl (by first | rfl | (simp; done) | (simp; rfl)) ?aP (fun _ hk => hk.elim) ?aF ?aO ?aB ?aS ?aL ?_; skip)
    case aP => exact rfl
    case aB => exact HT8.out
    case aF => exact (fun _ _ => trivial)
    case aO => exact HV7.out
    case aS => exact HT8.out.size
    case aL => first | omega | (simp; done) | (simp; omega)
    intro v9 w9 ho hb5 hg5 hat5
    have HV9 := Lib.hid ho
    have HT9 := Lib.hid hb5
    clear ho hb5 hg5 hat5
    rw [← HSQ.out] at HV9
    go_wp2
    go_roundw
    case rel => exact ⟨k + 1, by omega, by go_num, HV9, HT9⟩
    case measure => simp [intOf]; omega
   ·
    have qp0 : (parentT x0).toList ≠ [] := fun e => by
     have h := toList_inj (parentT x0) ⟨#[]⟩
     rw [decide_eq_false hpa, e, Lib.toList_data] at h
     cases h
    have qp1 : (parentT x0).toList.isEmpty = false := by simp [qp0]
    have qp2 : ((parentT x0).toList == []) = false := by simpa using qp0
    have HSQ : Hid (lsP ⟨#[]⟩ (s.take (k + 1)) = L) := Lib.hid (by rw [HSTP.out]; exact (congrArg (L ++ ·) (if_neg hpa)).trans (List.append_nil L))
    clear HSTP hpa c6
    have HV8 : Hid (Kd.string.R 9 w6 w3.heap.size (fun _ => True) (.slice A L.length c) (lsP ⟨#[]⟩ (s.take (k + 1)))) := by rw [HSQ.out]; exact HV6
    clear HV6 HSQ
    go_wp2
    go_roundw
    case rel => exact ⟨k + 1, by omega, by go_num, HV8, HTW⟩
    case measure => simp [intOf]; omega
  ·
   have hj2 : ¬ (k : Int) < (s.length : Int) := by omega
   have hks : s.take k = s := List.take_of_length_le (by omega)
   rw [hks] at HV ⊢
   go_wp2
   go_ret2
   exact ⟨_, by rw [HX.out]; rfl, by rw [HX.out]; exact Kd.R_lower HV.out HB3.out.size, below_next HB3.out HT.out⟩
theorem list_any (W0 W : World) (b : Nat) (vl vs vq : Value) (d : Dk) (m : Nat) (hP : Prog W0 W b vl vs vq d m) (hm : m ≤ 900000) (path : ByteArray) (hp : path.size ≤ 10000) :
  Calls Tryz.prog 33 #[.pointer (some ⟨b, 0, none⟩), .string path] W fun e w' => ∃ v1, e = .returned (.tuple #[v1, .int .i64 (listP d.shows path).2]) ∧ Kd.string.R 9 w' W.heap.size (fun _ => True) v1 (listP d.shows path).1 ∧ Below W.heap.size W w' := by
 by_cases h0 : path.toList = []
 ·
  exact list_top W0 W b vl vs vq d m hP hm path hp h0
 ·
  exact list_some W0 W b vl vs vq d m hP hm path hp h0
end Go.Proofs.YtibmfjacfbpfgaaGreatDoor.DList
namespace Go.Proofs.YtibmfjacfbpfgaaGreatDoor.DFlush
open Go.RowKit YtibmfjacfbpfgaaGreatDoorW.PrintWords YtibmfjacfbpfgaaGreatDoorW.PrintLast YtibmfjacfbpfgaaGreatDoorW.PrintMore NameLaw NameCmp NameWalk NameRef NameKeepLaw NodeRes YtibmfjacfbpfgaaGreatDoor.Item Own TreeLaw TreeNodes SortIns SortSwap FillLaw DiffLaw RealLaw DoneLaw KeepLaw OpLaw OpKeep JoinLaw DAt StepA Step Real DSmall DRows DDone DWait DkLaw OwnLeaf DState
set_option maxHeartbeats 2000000 in
theorem all_any (n b : Nat) (vl vs vq : Value) (d : Dk) (W : World) (h : DkAt W n b vl vs vq d) (hl : d.shows.length ≤ 1000000) :
  Calls Tryz.prog 15 #[.pointer (some ⟨b, 0, none⟩)] W fun e w' => ∃ v1, e = .returned v1 ∧ itemK.R 77 w' W.heap.size (fun _ => True) v1 d.shows ∧ Below W.heap.size W w' := by
 obtain ⟨A, c, hv, _, hC⟩ := Kd.R_reads h.rs
 subst hv
 have c1 := h.c1
 have HC := Lib.hid (tclone_any d.shows A c W hC hl)
 clear h hC hl
 go_enter Tryz.func15, Tryz.ntmps15
 go_wp2_with fail
 refine HC.out.mono ?_
 rintro e w1 ⟨v1, rfl, hr, hb⟩
 have HF := Lib.hid (And.intro hr hb)
 clear hr hb
 go_wp2
 go_ret
 exact ⟨v1, rfl, HF.out.1, HF.out.2⟩
end Go.Proofs.YtibmfjacfbpfgaaGreatDoor.DFlush
namespace Go.Proofs.YtibmfjacfbpfgaaGreatDoor.DLay
open Go.RowKit YtibmfjacfbpfgaaGreatDoorW.PrintWords YtibmfjacfbpfgaaGreatDoorW.PrintLast YtibmfjacfbpfgaaGreatDoorW.PrintMore NameLaw NameCmp NameWalk NameRef NameKeepLaw NodeRes YtibmfjacfbpfgaaGreatDoor.Item Own TreeLaw TreeNodes SortIns SortSwap FillLaw DiffLaw RealLaw DoneLaw KeepLaw OpLaw OpKeep JoinLaw DAt StepA Step Real DSmall DRows DDone DWait DkLaw DState NameUse RealKeep DMake DList DFlush
theorem prog_next {W0 W w' : World} {b m : Nat} {vl vs vq vl1 vs1 vq1 : Value} {d : Dk} (hP : Prog W0 W b vl vs vq d m) {k : Int} {path tp : ByteArray} {n : Nd} (hn : n.2.2.2.2.2.2.size ≤ 100000) (hd : DkAt w' W0.heap.size b vl1 vs1 vq1 (opD nzP d k path tp n).2) (hs : Still W w' (Owns b vl vs vq) (Owns b vl1 vs1 vq1)) : Prog W0 w' b vl1 vs1 vq1 (opD nzP d k path tp n).2 (m + 1) :=
 ⟨hP.glob, Still.low hs hP.low (Nat.le_refl _) (owns_base hP.at_), hd, op_trees hP.trees k path tp n, op_bnd nzP_size hP.bnd k path tp n hn⟩
theorem prog_mono {W0 W : World} {b m n : Nat} {vl vs vq : Value} {d : Dk} (h : Prog W0 W b vl vs vq d m) (hm : m ≤ n) : Prog W0 W b vl vs vq d n := ⟨h.glob, h.low, h.at_, h.trees, h.bnd.mono hm⟩
def LayPost (W0 W : World) (b : Nat) (vl vs vq : Value) (m : Nat) (r : Int × Dk) (e : Ending) (w' : World) : Prop :=
 e = .returned (.int .i64 r.1) ∧ ∃ vl1 vs1 vq1, Prog W0 w' b vl1 vs1 vq1 r.2 m ∧ Still W w' (Owns b vl vs vq) (Owns b vl1 vs1 vq1)
def layP (nz : Int → Nd → Nd) (root : ByteArray) : Dk → List It → Int × Dk
 | d, [] => (0, d)
 | d, x :: t => if (opD nz d 0 (joinS root x.1) ⟨#[]⟩ x.2).1 ≠ 0 then opD nz d 0 (joinS root x.1) ⟨#[]⟩ x.2 else layP nz root (opD nz d 0 (joinS root x.1) ⟨#[]⟩ x.2).2 t
theorem lay_stop {nz : Int → Nd → Nd} {root : ByteArray} {d : Dk} {x : It} {t : List It} (h : (opD nz d 0 (joinS root x.1) ⟨#[]⟩ x.2).1 ≠ 0) : layP nz root d (x :: t) = opD nz d 0 (joinS root x.1) ⟨#[]⟩ x.2 := if_pos h
theorem lay_on {nz : Int → Nd → Nd} {root : ByteArray} {d : Dk} {x : It} {t : List It} (h : (opD nz d 0 (joinS root x.1) ⟨#[]⟩ x.2).1 = 0) : layP nz root d (x :: t) = layP nz root (opD nz d 0 (joinS root x.1) ⟨#[]⟩ x.2).2 t := if_neg (fun e : ¬ _ => e h)
theorem join_nil (p : ByteArray) : joinS ⟨#[]⟩ p = p := if_pos rfl
set_option maxHeartbeats 8000000 in
set_option maxRecDepth 100000 in
theorem lay_top (W0 W : World) (b : Nat) (vl vs vq : Value) (d : Dk) (m : Nat) (hP : Prog W0 W b vl vs vq d m) (t : List It) (A : Option Addr) (c : Nat) (hT : ItemC W0 A t) (hm : m + t.length ≤ 900000) (hsz : ∀ x ∈ t, x.1.size ≤ 1000 ∧ x.2.2.2.2.2.2.2.size ≤ 100000) :
  Calls Tryz.prog 39 #[.pointer (some ⟨b, 0, none⟩), .string ⟨#[]⟩, .slice A t.length c] W (LayPost W0 W b vl vs vq (m + t.length) (layP nzP ⟨#[]⟩ d t)) := by
 have HT := Lib.hid hT
 have HSZ := Lib.hid hsz
 have hPW := Lib.hid hP
 obtain ⟨R, hR⟩ : ∃ R, R = layP nzP ⟨#[]⟩ d t := ⟨_, rfl⟩
 rw [← hR]
 have HR0 := Lib.hid (show R = layP nzP ⟨#[]⟩ d (t.drop 0) from hR)
 clear hR hT hsz hP
 go_enter Tryz.func39, Tryz.ntmps39
 go_wp2
 go_loopw [13] (fun i wr => ∃ (k : Nat) (dk : Dk) (v1 v2 v3 : Value), k ≤ t.length ∧ i = .int .i64 k ∧ Hid (R = layP nzP ⟨#[]⟩ dk (t.drop k)) ∧ Hid (Prog W0 wr b v1 v2 v3 dk (m + k)) ∧ Hid (Still W wr (Owns b vl vs vq) (Owns b v1 v2 v3))) (fun i _ => t.length - (intOf i).toNat)
 case atStart => exact ⟨0, d, vl, vs, vq, Nat.zero_le _, rfl, HR0, hPW, Lib.hid (Still.refl _ _)⟩
 case round =>
  clear HR0 hPW
  obtain ⟨k, dk, v1, v2, v3, hk, rfl, HR, HP, HS⟩ := hrel
  by_cases hlt : k < t.length
  ·
   obtain ⟨ad, rfl, e0, e1, e2, e3, e4, e5, e6, e7⟩ := item_at (Kd.C_below HT.out HP.out.low) hlt
   have hltI : (k : Int) < t.length := by omega
   have hxs := HSZ.out _ (List.getElem_mem hlt)
   have hR := HR.out
   rw [List.drop_eq_getElem_cons hlt] at hR
   generalize t[k] = x at *
   obtain ⟨x0, x1, x2, x3, x4, x5, x6, x7⟩ := x
   simp only at e0 e1 e2 e3 e4 e5 e6 e7 hxs
   have hb5 := below_one wr (.cells #[.string x0, .int .i64 x1, .int .u32 x2, .int .u32 x3, .int .u32 x4, .int .i64 x5, .int .i64 x6, .string x7] 77)
   have HP5 := Lib.hid (HP.out.below hb5)
   have HS5 := Lib.hid (HS.out.trans (Still.below hb5 _))
   have HN5 := Lib.hid (heap_new wr (.cells #[.string x0, .int .i64 x1, .int .u32 x2, .int .u32 x3, .int .u32 x4, .int .i64 x5, .int .i64 x6, .string x7] 77))
   have n0 : (wr.alloc (.cells #[.string x0, .int .i64 x1, .int .u32 x2, .int .u32 x3, .int .u32 x4, .int .i64 x5, .int .i64 x6, .string x7] 77)).cell? ⟨wr.heap.size, 0, none⟩ = some (.string x0) := by rw [cell_of HN5.out]; rfl
   have n1 : (wr.alloc (.cells #[.string x0, .int .i64 x1, .int .u32 x2, .int .u32 x3, .int .u32 x4, .int .i64 x5, .int .i64 x6, .string x7] 77)).cell? ⟨wr.heap.size, 1, none⟩ = some (.int .i64 x1) := by rw [cell_of HN5.out]; rfl
   have n2 : (wr.alloc (.cells #[.string x0, .int .i64 x1, .int .u32 x2, .int .u32 x3, .int .u32 x4, .int .i64 x5, .int .i64 x6, .string x7] 77)).cell? ⟨wr.heap.size, 2, none⟩ = some (.int .u32 x2) := by rw [cell_of HN5.out]; rfl
   have n3 : (wr.alloc (.cells #[.string x0, .int .i64 x1, .int .u32 x2, .int .u32 x3, .int .u32 x4, .int .i64 x5, .int .i64 x6, .string x7] 77)).cell? ⟨wr.heap.size, 3, none⟩ = some (.int .u32 x3) := by rw [cell_of HN5.out]; rfl
   have n4 : (wr.alloc (.cells #[.string x0, .int .i64 x1, .int .u32 x2, .int .u32 x3, .int .u32 x4, .int .i64 x5, .int .i64 x6, .string x7] 77)).cell? ⟨wr.heap.size, 4, none⟩ = some (.int .u32 x4) := by rw [cell_of HN5.out]; rfl
   have n5 : (wr.alloc (.cells #[.string x0, .int .i64 x1, .int .u32 x2, .int .u32 x3, .int .u32 x4, .int .i64 x5, .int .i64 x6, .string x7] 77)).cell? ⟨wr.heap.size, 5, none⟩ = some (.int .i64 x5) := by rw [cell_of HN5.out]; rfl
   have n6 : (wr.alloc (.cells #[.string x0, .int .i64 x1, .int .u32 x2, .int .u32 x3, .int .u32 x4, .int .i64 x5, .int .i64 x6, .string x7] 77)).cell? ⟨wr.heap.size, 6, none⟩ = some (.int .i64 x6) := by rw [cell_of HN5.out]; rfl
   have n7 : (wr.alloc (.cells #[.string x0, .int .i64 x1, .int .u32 x2, .int .u32 x3, .int .u32 x4, .int .i64 x5, .int .i64 x6, .string x7] 77)).cell? ⟨wr.heap.size, 7, none⟩ = some (.string x7) := by rw [cell_of HN5.out]; rfl
   have HMK := make_any W0 (wr.alloc (.cells #[.string x0, .int .i64 x1, .int .u32 x2, .int .u32 x3, .int .u32 x4, .int .i64 x5, .int .i64 x6, .string x7] 77)) b v1 v2 v3 dk (m + k) HP5.out (by omega) x0 (by omega) x1 x2 x3 x4 x5 x6 x7 hxs.2
   have HSTOP := Lib.hid (fun h => hR.trans (lay_stop (nz := nzP) h))
   have HON := Lib.hid (fun h => hR.trans (lay_on (nz := nzP) h))
   have HNX := Lib.hid (fun w' u1 u2 u3 h1 h2 => prog_next HP5.out (w' := w') (vl1 := u1) (vs1 := u2) (vq1 := u3) (k := 0) (path := x0) (tp := ⟨#[]⟩) (n := (x1, x2, x3, x4, x5, x6, x7)) hxs.2 h1 h2)
   simp only at HSTOP HON
   rw [join_nil] at HSTOP HON
   replace HMK := Lib.hid HMK
   clear hR HR hb5 HP HS
   generalize opD nzP dk 0 x0 ⟨#[]⟩ (x1, x2, x3, x4, x5, x6, x7) = r at *
   obtain ⟨r0, dr⟩ := r
   go_wp2_with fail
   generalize wr.alloc (.cells #[.string x0, .int .i64 x1, .int .u32 x2, .int .u32 x3, .int .u32 x4, .int .i64 x5, .int .i64 x6, .string x7] 77) = w5 at *
   generalize wr.heap.size = bx at *
   refine HMK.out.mono ?_
   rintro e w6 hp6
   obtain ⟨rfl, u1, u2, u3, hd6, hs6⟩ := hp6
   have HS6 := Lib.hid (HS5.out.trans hs6)
   have HP6 := Lib.hid (HNX.out w6 u1 u2 u3 hd6 hs6)
   clear hd6 hs6 HMK HNX n0 n1 n2 n3 n4 n5 n6 n7 e0 e1 e2 e3 e4 e5 e6 e7
   by_cases hr0 : r0 = 0
   ·
    subst hr0
    have HR7 := Lib.hid (HON.out rfl)
    clear HSTOP HON
    go_wp2
    go_roundw
    case rel => exact ⟨k + 1, dr, u1, u2, u3, by omega, by go_num, HR7, HP6, HS6⟩
    case measure => simp [intOf]; omega
   ·
    have q0 : (r0 == 0) = false := beq_eq_false_iff_ne.2 hr0
    have q1 : (r0 != 0) = true := bne_iff_ne.2 hr0
    have HX := Lib.hid (HSTOP.out hr0)
    clear HSTOP HON
    go_wp2
    go_ret
    exact ⟨by rw [HX.out]; rfl, u1, u2, u3, by rw [HX.out]; exact prog_mono HP6.out (by omega), HS6.out⟩
  ·
   have hj2 : ¬ (k : Int) < (t.length : Int) := by omega
   have HX : Hid (R = (0, dk)) := Lib.hid (by rw [HR.out, List.drop_of_length_le (by omega)]; rfl)
   clear HR
   go_wp2
   go_ret
   exact ⟨by rw [HX.out]; rfl, v1, v2, v3, by rw [HX.out]; exact prog_mono HP.out (by omega), HS.out⟩
set_option maxHeartbeats 8000000 in
set_option maxRecDepth 100000 in
theorem read_top (W0 W : World) (b : Nat) (vl vs vq : Value) (d : Dk) (m : Nat) (hP : Prog W0 W b vl vs vq d m) (hm : m ≤ 900000) :
  Calls Tryz.prog 41 #[.pointer (some ⟨b, 0, none⟩), .string ⟨#[]⟩] W fun e w' => ∃ v1, e = .returned (.tuple #[v1, .int .i64 0]) ∧ itemK.R 77 w' W.heap.size (fun _ => True) v1 d.shows ∧ Below W.heap.size W w' := by
 have HLS := list_any W0 W b vl vs vq d m hP hm ⟨#[]⟩ (by decide)
 have hl0 : listP d.shows ⟨#[]⟩ = (lsP ⟨#[]⟩ d.shows, 0) := list_ok (by rfl) (kind_nil d.shows ⟨#[]⟩ rfl)
 rw [hl0] at HLS
 replace HLS := Lib.hid HLS
 have HAL := Lib.hid (fun w (h : Below W.heap.size W w) => all_any W0.heap.size b vl vs vq d w (hP.below h).at_ (by have := hP.bnd.shows; omega))
 have hlen := hP.bnd.shows.1
 clear hP hl0
 generalize d.shows = s at *
 go_enter Tryz.func41, Tryz.ntmps41
 go_wp2_with fail
 refine HLS.out.mono ?_
 rintro e w1 ⟨v0, rfl, -, hb1⟩
 have HB1 := Lib.hid hb1
 clear hb1 HLS
 go_wp2_with fail
 refine (HAL.out _ HB1.out).mono ?_
 rintro e w2 ⟨v1, rfl, hr2, hb2⟩
 have HB2 := Lib.hid (below_next HB1.out hb2)
 obtain ⟨A, c, hv, _, hC⟩ := Kd.R_reads hr2
 subst hv
 have HC := Lib.hid hC
 clear hb2 hC hr2 HAL HB1
 have hw2 := HB2.out.size
 have HL0 : Hid (s.take 0 = []) := Lib.hid rfl
 go_wp2
 go_loopw [12, 48] (fun v i wr => ∃ k : Nat, k ≤ s.length ∧ i = .int .i64 k ∧ Hid (itemK.R 77 wr w2.heap.size (fun _ => True) v (s.take k)) ∧ Hid (Below w2.heap.size w2 wr)) (fun v i _ => s.length - (intOf i).toNat)
 case atStart => exact ⟨0, Nat.zero_le _, rfl, by rw [HL0.out]; exact Lib.hid (Kd.R_nil _ _ _ _ _), Lib.hid (Below.refl _ _)⟩
 case round =>
  clear HL0
  obtain ⟨k, hk, rfl, HV, HT⟩ := hrel
  obtain ⟨A2, c2, hv⟩ := Kd.R_slice HV.out
  subst hv
  by_cases hlt : k < s.length
  ·
   obtain ⟨ad, rfl, e0, e1, e2, e3, e4, e5, e6, e7⟩ := item_at (Kd.C_below HC.out HT.out) hlt
   have hltI : (k : Int) < s.length := by omega
   have HSTP := Lib.hid (List.take_succ_eq_append_getElem hlt)
   generalize s[k] = x at *
   obtain ⟨x0, x1, x2, x3, x4, x5, x6, x7⟩ := x
   simp only at e0 e1 e2 e3 e4 e5 e6 e7
   obtain ⟨Lk, hL⟩ : ∃ Lk, Lk = s.take k := ⟨_, rfl⟩
   rw [← hL] at HV HSTP ⊢
   have hLl : Lk.length ≤ k := by rw [hL, List.length_take]; omega
   clear hL
   have hb5 := below_one wr (.cells #[.string x0, .int .i64 x1, .int .u32 x2, .int .u32 x3, .int .u32 x4, .int .i64 x5, .int .i64 x6, .string x7] 77)
   have HN5 := Lib.hid (heap_new wr (.cells #[.string x0, .int .i64 x1, .int .u32 x2, .int .u32 x3, .int .u32 x4, .int .i64 x5, .int .i64 x6, .string x7] 77))
   have HV5 := Lib.hid (Kd.R_below HV.out hb5)
   have HT5 := Lib.hid (below_next HT.out hb5)
   have n0 : (wr.alloc (.cells #[.string x0, .int .i64 x1, .int .u32 x2, .int .u32 x3, .int .u32 x4, .int .i64 x5, .int .i64 x6, .string x7] 77)).cell? ⟨wr.heap.size, 0, none⟩ = some (.string x0) := by rw [cell_of HN5.out]; rfl
   have n1 : (wr.alloc (.cells #[.string x0, .int .i64 x1, .int .u32 x2, .int .u32 x3, .int .u32 x4, .int .i64 x5, .int .i64 x6, .string x7] 77)).cell? ⟨wr.heap.size, 1, none⟩ = some (.int .i64 x1) := by rw [cell_of HN5.out]; rfl
   have n2 : (wr.alloc (.cells #[.string x0, .int .i64 x1, .int .u32 x2, .int .u32 x3, .int .u32 x4, .int .i64 x5, .int .i64 x6, .string x7] 77)).cell? ⟨wr.heap.size, 2, none⟩ = some (.int .u32 x2) := by rw [cell_of HN5.out]; rfl
   have n3 : (wr.alloc (.cells #[.string x0, .int .i64 x1, .int .u32 x2, .int .u32 x3, .int .u32 x4, .int .i64 x5, .int .i64 x6, .string x7] 77)).cell? ⟨wr.heap.size, 3, none⟩ = some (.int .u32 x3) := by rw [cell_of HN5.out]; rfl
   have n4 : (wr.alloc (.cells #[.string x0, .int .i64 x1, .int .u32 x2, .int .u32 x3, .int .u32 x4, .int .i64 x5, .int .i64 x6, .string x7] 77)).cell? ⟨wr.heap.size, 4, none⟩ = some (.int .u32 x4) := by rw [cell_of HN5.out]; rfl
   have n5 : (wr.alloc (.cells #[.string x0, .int .i64 x1, .int .u32 x2, .int .u32 x3, .int .u32 x4, .int .i64 x5, .int .i64 x6, .string x7] 77)).cell? ⟨wr.heap.size, 5, none⟩ = some (.int .i64 x5) := by rw [cell_of HN5.out]; rfl
   have n6 : (wr.alloc (.cells #[.string x0, .int .i64 x1, .int .u32 x2, .int .u32 x3, .int .u32 x4, .int .i64 x5, .int .i64 x6, .string x7] 77)).cell? ⟨wr.heap.size, 6, none⟩ = some (.int .i64 x6) := by rw [cell_of HN5.out]; rfl
   have n7 : (wr.alloc (.cells #[.string x0, .int .i64 x1, .int .u32 x2, .int .u32 x3, .int .u32 x4, .int .i64 x5, .int .i64 x6, .string x7] 77)).cell? ⟨wr.heap.size, 7, none⟩ = some (.string x7) := by rw [cell_of HN5.out]; rfl
   clear hb5 HV HT
   go_wp2_with ((with_reducible refine gate_builtin (b := .append) (xs := #[.tmp 55, .tmp 57]) rfl ?_); at_builtin; refine Kd.R_append itemK (w0 := w2) w2.heap.size rfl (.tmp 55) (.tmp 57) 41 77 (.agg #[.string ByteArray.empty, .int .i64 0, .int .u32 0, .int .u32 0, .int .u32 0, .int .i64 0, .int .i64 0, .string ByteArray.empty]) 72 rfl Tryz.underlying41 infoItem rfl (by decide) (by decide) (.slice A2 Lk.length c2) Lk (x0, x1, x2, x3, x4, x5, x6, x7) [.string x0, .int .i64 x1, .int .u32 x2, .int .u32 x3, .int .u32 x4, .int .i64 x5, .int .i64 x6, .string x7] (fun _ => True) (fun _ => False) rfl (by first | rfl | (simp; done) | (simp; rfl)) ?aP (fun _ hk => hk.elim) ?aF ?aO ?aB ?aS ?aL ?_; skip)
   case aP => exact itemK_M _ _ _ (x0, x1, x2, x3, x4, x5, x6, x7)
   case aB => exact HT5.out
   case aF => exact (fun _ _ => trivial)
   case aO => exact HV5.out
   case aS => exact HT5.out.size
   case aL => first | omega | (simp; done) | (simp; omega)
   intro v9 w9 ho hb5 hg5 hat5
   have HV9 := Lib.hid ho
   have HT9 := Lib.hid hb5
   clear ho hb5 hg5 hat5
   rw [← HSTP.out] at HV9
   go_wp2
   go_roundw
   case rel => exact ⟨k + 1, by omega, by go_num, HV9, HT9⟩
   case measure => simp [intOf]; omega
  ·
   have hj2 : ¬ (k : Int) < (s.length : Int) := by omega
   have hks : s.take k = s := List.take_of_length_le (by omega)
   rw [hks] at HV ⊢
   go_wp2
   go_ret2
   exact ⟨_, rfl, Kd.R_lower HV.out hw2, below_next HB2.out HT.out⟩
end Go.Proofs.YtibmfjacfbpfgaaGreatDoor.DLay
