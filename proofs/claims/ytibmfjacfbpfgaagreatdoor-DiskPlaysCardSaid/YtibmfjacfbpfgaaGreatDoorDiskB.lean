/- disk: a disk that is a tree, in memory. -/
import Derived.Test.YtibmfjacfbpfgaaGreatDoorStepG
import Derived.Test.YtibmfjacfbpfgaaGreatDoorDiskA
import Derived.Test.YtibmfjacfbpfgaaGreatDoorLawD
import Derived.Test.YtibmfjacfbpfgaaGreatDoorTreeQ
import Derived.Test.YtibmfjacfbpfgaaGreatDoorNodeRes
set_option maxHeartbeats 32000000
set_option maxRecDepth 100000
set_option linter.unusedVariables false
set_option linter.unusedSimpArgs false
namespace Go.Proofs.YtibmfjacfbpfgaaGreatDoor.DState
open Go.RowKit YtibmfjacfbpfgaaGreatDoorW PrintWords PrintLast PrintMore NameLaw NameCmp NameWalk NameRef NameKeepLaw NodeRes YtibmfjacfbpfgaaGreatDoor.Item Own TreeLaw TreeNodes SortIns SortSwap FillLaw DiffLaw RealLaw DoneLaw KeepLaw OpLaw OpKeep JoinLaw DAt StepA Step Real DSmall DRows DDone DWait DkLaw
structure Prog (W0 W : World) (b : Nat) (vl vs vq : Value) (d : Dk) (m : Nat) : Prop where
 glob : Glob W0
 low : Below W0.heap.size W0 W
 at_ : DkAt W W0.heap.size b vl vs vq d
 trees : Trees d
 bnd : Bnd m d
def OpPost (W0 W : World) (b : Nat) (vl vs vq : Value) (r : Int × Dk) (e : Ending) (w' : World) : Prop :=
 e = .returned (.int .i64 r.1) ∧ ∃ vl1 vs1 vq1, DkAt w' W0.heap.size b vl1 vs1 vq1 r.2 ∧ Still W w' (Owns b vl vs vq) (Owns b vl1 vs1 vq1)
theorem still_new {W w : World} {S T : Nat → Prop} (h : Still W w S T) {g : Nat} (hg : W.heap.size ≤ g) (j : Nat) (u : Value) : Still W (w.setCell ⟨g, j, none⟩ u) S T :=
 ⟨h.os, h.tape, h.output, Nat.le_trans h.size (set_grown w g j u).size, fun k hk hs => ((set_grown w g j u).block k (Nat.lt_of_lt_of_le hk h.size) (fun e => by injection e with e; omega)).trans (h.block k hk hs), h.own⟩
section
variable {W0 W W1 : World} {b m : Nat} {vl vs vq : Value} {d : Dk}
theorem Prog.begun (hP : Prog W0 W b vl vs vq d m) (hd : DkAt W1 W0.heap.size b vl vs vq (beginD d).2) (hg : W.grownBy W1 (some b)) : Prog W0 W1 b vl vs vq (beginD d).2 m :=
 ⟨hP.glob, below_of_grown hP.low (Nat.le_refl _) hg (fun x hx => by injection hx with hx; rw [← hx]; exact hP.at_.nb), hd, begin_trees hP.trees, begin_bnd hP.bnd⟩
theorem Prog.below (hP : Prog W0 W b vl vs vq d m) (hb : Below W.heap.size W W1) : Prog W0 W1 b vl vs vq d m := ⟨hP.glob, below_next hP.low hb, hP.at_.below hb, hP.trees, hP.bnd⟩
theorem Prog.far (hP : Prog W0 W b vl vs vq d m) {g : Nat} (hn : ∀ k, Owns b vl vs vq k → k ≠ g) (hg : W0.heap.size ≤ g) (j : Nat) (u : Value) : Prog W0 (W.setCell ⟨g, j, none⟩ u) b vl vs vq d m :=
 ⟨hP.glob, below_of_grown hP.low (Nat.le_refl _) (set_grown W g j u) (fun x hx => by injection hx with hx; omega), hP.at_.still (S := fun k => k = g) (T := fun k => k = g) (Still.grown (set_grown W g j u) (fun k e => by injection e with e; exact e.symm) (fun k e => .inl e)) hn, hP.trees, hP.bnd⟩
theorem Prog.shown (hP : Prog W0 W b vl vs vq d m) (hm : m ≤ 900000) : Shown W b d.shows := by
 obtain ⟨A, c, rfl, _, hC⟩ := Kd.R_reads hP.at_.rs;have hr := Trees.shows hP.trees;have hb := hP.bnd.shows;exact ⟨hP.glob.below hP.low, ⟨A, c, hP.at_.c1, hC⟩, hP.at_.lt, by omega, right_strict hr, right_size hr, fun x hx => hb.2 x hx⟩
theorem Prog.kind (hP : Prog W0 W b vl vs vq d m) (hm : m ≤ 900000) (p : ByteArray) (hp : p.size ≤ 100000) :
  Calls Tryz.prog 59 #[.pointer (some ⟨b, 0, none⟩), .string p] W fun e w' => e = .returned (.int .i64 (kindOf d.shows p)) ∧ Below W.heap.size W w' := by
 have hS := hP.shown hm;obtain ⟨A, c, h1, h2⟩ := hS.cell;exact kind_any b d.shows A c p W hS.glob h1 h2 hS.len hS.ord hS.short (by omega)
theorem Prog.full (hP : Prog W0 W b vl vs vq d m) (hm : m ≤ 900000) (p : ByteArray) (s : Nat) (hs : s ≤ 1000000) :
  Calls Tryz.prog 60 #[.pointer (some ⟨b, 0, none⟩), .string p, .int .i64 s] W fun e w' => e = .returned (.bool (decide (d.limit < (s : Int) + sumO d.shows p))) ∧ Below W.heap.size W w' := by
 have hS := hP.shown hm;obtain ⟨A, c, h1, h2⟩ := hS.cell;have := full_any b d.shows A c p s d.limit W h1 hP.at_.c3 h2 hS.len (fun x hx => by have := hS.data x hx; omega) (by omega) (by omega);rw [sumP_sumO] at this;exact this
theorem Prog.real (hP : Prog W0 W b vl vs vq d m) (hm : m ≤ 900000) (p : ByteArray) (hp : p.size ≤ 10000) :
  Calls Tryz.prog 16 #[.pointer (some ⟨b, 0, none⟩), .string p] W fun e w' => e = .returned (.tuple #[.string (realP d.shows p).1, .int .i64 (realP d.shows p).2]) ∧ Below W.heap.size W w' := real_any d.shows W b p (hP.shown hm) hp
theorem Prog.wait (hP : Prog W0 W b vl vs vq d m) (hm : m ≤ 900000) (k : Int) (hk : k = 0 ∨ k = 1 ∨ k = 2 ∨ k = 3 ∨ k = 4) (pa tp : ByteArray) (kd mo ui gi mt at_ : Int) (da : ByteArray) (hp : pa.size ≤ 100000) (hp2 : tp.size ≤ 100000) :
  Calls Tryz.prog 61 #[.pointer (some ⟨b, 0, none⟩), .agg #[.int .i64 k, .string pa, .string tp, .int .i64 kd, .int .u32 mo, .int .u32 ui, .int .u32 gi, .int .i64 mt, .int .i64 at_, .string da, .bool false]] W (OpPost W0 W b vl vs vq (0, endD (waitD d (k, pa, tp, (kd, mo, ui, gi, mt, at_, da), false)))) := by
 have hr := Trees.shows hP.trees;have hb := hP.bnd.shows;have hl := hP.bnd.len;have hst := hP.bnd.steps;refine (wait_dk W0 hP.glob b vl vs vq d k pa tp kd mo ui gi mt at_ da W hP.low hP.at_ (by omega) (fun x hx => by have := right_size hr x hx; omega) (right_strict hr) (by omega) (by omega) hk hP.bnd.fuse hst.1 (by omega) (by omega)).mono ?_;rintro e w' ⟨rfl, ⟨v1, v2, h1, h2⟩, _⟩;exact ⟨rfl, vl, v1, v2, h1, h2⟩
theorem Prog.waitP (hP : Prog W0 W b vl vs vq d m) (hm : m ≤ 900000) (pa tp : ByteArray) (kd mo ui gi mt at_ : Int) (da : ByteArray) (hp : pa.size ≤ 100000) :
  Calls Tryz.prog 61 #[.pointer (some ⟨b, 0, none⟩), .agg #[.int .i64 0, .string pa, .string tp, .int .i64 kd, .int .u32 mo, .int .u32 ui, .int .u32 gi, .int .i64 mt, .int .i64 at_, .string da, .bool false]] W (OpPost W0 W b vl vs vq (0, endD (waitD d (0, pa, tp, (kd, mo, ui, gi, mt, at_, da), false)))) := by
 have hr := Trees.shows hP.trees;have hb := hP.bnd.shows;have hl := hP.bnd.len;have hst := hP.bnd.steps;refine (wait_by W0 b vl vs vq d 0 pa tp kd mo ui gi mt at_ da W hP.low hP.at_ (fun W' hb' h' => done_put W0 hP.glob vs d.shows pa tp kd mo ui gi mt at_ da false W' hb' h' (by omega) (fun x hx => by have := right_size hr x hx; omega) (right_strict hr) (by omega)) hP.bnd.fuse hst.1 (by omega) (by omega)).mono ?_;rintro e w' ⟨rfl, ⟨v1, v2, h1, h2⟩, _⟩;exact ⟨rfl, vl, v1, v2, h1, h2⟩
theorem OpPost.pre {r : Int × Dk} {e : Ending} {w' : World} (h : Still W W1 (Owns b vl vs vq) (Owns b vl vs vq)) (k : OpPost W0 W1 b vl vs vq r e w') : OpPost W0 W b vl vs vq r e w' := by
 obtain ⟨rfl, v1, v2, v3, h1, h2⟩ := k;exact ⟨rfl, v1, v2, v3, h1, h.trans h2⟩
theorem OpPost.same {r : Int} {w' : World} (h : Still W W1 (Owns b vl vs vq) (Owns b vl vs vq)) (k : DkAt W1 W0.heap.size b vl vs vq d) : OpPost W0 W b vl vs vq (r, d) (.returned (.int .i64 r)) W1 := ⟨rfl, vl, vs, vq, k, h⟩
end
theorem and_rights (mo : Int) : Go.bits .and .u32 mo 4095 = masked mo := by
 have e : Go.bits .and .u32 mo 4095 = IntKind.u32.wrap (((BitVec.ofInt 32 mo) &&& (BitVec.ofInt 32 4095)).toNat : Int) := rfl;rw [e, BitVec.toNat_and, show (BitVec.ofInt 32 4095).toNat = 2 ^ 12 - 1 by decide, Nat.and_two_pow_sub_one_eq_mod, BitVec.toNat_ofInt];simp only [IntKind.wrap, IntKind.bits, IntKind.signed];simp only [Bool.false_and, if_neg (Bool.false_ne_true)];unfold masked;omega
end Go.Proofs.YtibmfjacfbpfgaaGreatDoor.DState
namespace Go.Proofs.YtibmfjacfbpfgaaGreatDoor.DFlush
open Go.RowKit YtibmfjacfbpfgaaGreatDoorW PrintWords PrintLast PrintMore NameLaw NameCmp NameWalk NameRef NameKeepLaw NodeRes YtibmfjacfbpfgaaGreatDoor.Item Own TreeLaw TreeNodes SortIns SortSwap FillLaw DiffLaw RealLaw DoneLaw KeepLaw OpLaw OpKeep JoinLaw DAt StepA Step Real DSmall DRows DDone DWait DkLaw OwnLeaf DState
theorem dlasts {W : World} {n b : Nat} {vl vs vq v1 : Value} {l s l1 : List It} {q : List Chg} {lim fu fa st : Int} {off : Bool} (h : DAt W n b vl vs vq l s q lim fu fa st off) (hr : itemK.R 77 W n (fun k => some k ≠ vs.ownBlock) v1 l1) : DAt (W.setCell ⟨b, 0, none⟩ v1) n b v1 vs vq l1 s q lim fu fa st off :=
 ⟨blk_put h.blk 0 v1 rfl, Kd.R_set hr h.blk (by decide) 0 v1, Kd.R_set h.rs h.blk (by decide) 0 v1, Kd.R_set h.rq h.blk (by decide) 0 v1, h.nb⟩
theorem new_row {W W1 : World} {n : Nat} {vs v1 : Value} {s l1 : List It} {ok : Nat → Prop} (hs : itemK.R 77 W n ok vs s) (hn : n ≤ W.heap.size) (hr : itemK.R 77 W1 W.heap.size (fun _ => True) v1 l1) : itemK.R 77 W1 n (fun k => some k ≠ vs.ownBlock) v1 l1 :=
 Kd.R_lower (Kd.R_mono (Kd.R_bound hr) (fun k hk e => by have := Kd.R_lt hs k e.symm; have := hk.2.1; omega)) hn
theorem fold_sure (p : ByteArray) : ∀ (l : List Chg) (s : List It), (l.map (sureC p)).foldl doneP s = l.foldl doneP s
 | [], _ => rfl
 | c :: l, s => by rw [List.map_cons, List.foldl_cons, List.foldl_cons, sure_done, fold_sure p l]
theorem all_any (n b : Nat) (vl vs vq : Value) (d : Dk) (W : World) (h : DkAt W n b vl vs vq d) (hl : d.shows.length ≤ 1000000) :
  Calls Tryz.prog 15 #[.pointer (some ⟨b, 0, none⟩)] W fun e w' => ∃ v1, e = .returned v1 ∧ itemK.R 77 w' W.heap.size (fun _ => True) v1 d.shows ∧ Below W.heap.size W w' := by
 obtain ⟨A, c, hv, _, hC⟩ := Kd.R_reads h.rs;subst hv;have c1 := h.c1;have HC := Hi (tclone_any d.shows A c W hC hl);clear h hC hl;go_enter Tryz.func15, Tryz.ntmps15
 go_wp2_with fail
 refine HC.out.mono ?_;rintro e w1 ⟨v1, rfl, hr, hb⟩;have HF := Hi (And.intro hr hb);clear hr hb;go_wp2;go_ret;exact ⟨v1, rfl, HF.out.1, HF.out.2⟩
theorem lasts_any (n b : Nat) (vl vs vq : Value) (d : Dk) (W : World) (h : DkAt W n b vl vs vq d) (hl : d.base.length ≤ 1000000) :
  Calls Tryz.prog 23 #[.pointer (some ⟨b, 0, none⟩)] W fun e w' => ∃ v1, e = .returned v1 ∧ itemK.R 77 w' W.heap.size (fun _ => True) v1 d.base ∧ Below W.heap.size W w' := by
 obtain ⟨A, c, hv, _, hC⟩ := Kd.R_reads h.rl;subst hv;have c1 := h.c0;have HC := Hi (tclone_any d.base A c W hC hl);clear h hC hl;go_enter Tryz.func23, Tryz.ntmps23
 go_wp2_with fail
 refine HC.out.mono ?_;rintro e w1 ⟨v1, rfl, hr, hb⟩;have HF := Hi (And.intro hr hb);clear hr hb;go_wp2;go_ret;exact ⟨v1, rfl, HF.out.1, HF.out.2⟩
theorem flush_any (W0 W : World) (b : Nat) (vl vs vq : Value) (d : Dk) (m : Nat) (hP : Prog W0 W b vl vs vq d m) (hm : m ≤ 900000) (path tp : ByteArray) (nd : Nd) :
  Calls Tryz.prog 14 #[.pointer (some ⟨b, 0, none⟩)] W (OpPost W0 W b vl vs vq (opD nzP d 6 path tp nd)) := by
 have HP1 := Hi hP;have HS1 := Hi (Still.refl W (Owns b vl vs vq));have HOW := Hi (owns_lt hP.at_);have HW0 := Hi hP.low.size;have hbb := hP.at_.lt;have HBG := Hi (begin_any W0.heap.size b vl vs vq d _ HP1.out.at_ hP.bnd.fuse hP.bnd.fail)
 by_cases hr : (beginD d).1 = 0
 ·
  have HL := Hi (op_done (nz := nzP) hr rfl (own_flush nzP (beginD d).2 path tp nd));generalize opD nzP d 6 path tp nd = X at *;have HPB := Hi (fun W2 h1 h2 => HP1.out.begun (W1 := W2) h1 h2);rw [hr] at HBG;have HSZ := Hi (real_small (s := (beginD d).2.shows) (path := path));clear hr hP HP1;generalize (beginD d).2 = d1 at *;go_enter Tryz.func14, Tryz.ntmps14
  go_wp2_with fail
  refine HBG.out.mono ?_;rintro e w2 ⟨rfl, hd2, hg2⟩;have HP2 := Hi (HPB.out w2 hd2 hg2);have HS2 := Hi (HS1.out.trans (still_own vl vs vq hg2));clear hd2 hg2 HBG HPB HS1;have hsh := HP2.out.bnd.shows;obtain ⟨As, cs, hv, _, hC⟩ := Kd.R_reads HP2.out.at_.rs;subst hv;have HCL := Hi (tclone_any d1.shows As cs w2 hC (by omega));have c1 := HP2.out.at_.c1;clear hC hsh HSZ
  go_wp2_with fail
  refine HCL.out.mono ?_;rintro e w3 ⟨v1, rfl, hr3, hb3⟩;obtain ⟨A1, k1, hv1⟩ := Kd.R_slice hr3;subst hv1;clear HCL c1;have HD3 := Hi (HP2.out.at_.below hb3);have c0 := HD3.out.c0;have z0 := HD3.out.fz 0;have HD4 := Hi (dlasts HD3.out (new_row HP2.out.at_.rs HP2.out.low.size hr3));have c2 := HD4.out.c2;have z2 := HD4.out.fz 2;have HD5 := Hi (dwaits HD4.out (Kd.R_nil chK 93 _ W0.heap.size (fun _ => True)) (grown_refl _ _));have HG := Hi (grown_trans (grown_of_below hb3 (some b)) (grown_trans (set_grown w3 b 0 (.slice A1 d1.shows.length k1)) (set_grown (w3.setCell ⟨b, 0, none⟩ (.slice A1 d1.shows.length k1)) b 2 (.slice none 0 0))));have HB := Hi (Kd.R_base hr3);clear hr3 hb3;have HE := Hi (end_any W0.heap.size b (.slice A1 d1.shows.length k1) _ (.slice none 0 0) d1.shows d1.shows [] d1.limit d1.fuse d1.fail d1.steps d1.off _ HD5.out HP2.out.bnd.fuse HP2.out.bnd.steps.1 (by have := HP2.out.bnd.steps.2; omega));obtain ⟨fu1, hfu1⟩ : ∃ f, f = (if 0 < d1.fuse then d1.fuse - 1 else d1.fuse) := ⟨_, rfl⟩;rw [← hfu1] at HE;have HFU := Hi hfu1;clear hfu1
  go_wp2_with fail
  generalize (w3.setCell ⟨b, 0, none⟩ (.slice A1 d1.shows.length k1)).setCell ⟨b, 2, none⟩ (.slice none 0 0) = w5 at *;refine HE.out.mono ?_;rintro e w6 ⟨rfl, hd6, hg6⟩;have HD6 := Hi hd6;have HG6 := Hi (grown_trans HG.out hg6);clear hd6 hg6 HE;go_wp2;go_ret;rw [HL.out];refine ⟨rfl, (.slice A1 d1.shows.length k1), (.slice As d1.shows.length cs), .slice none 0 0, ?_, HS2.out.trans (Still.grown HG6.out (fun k e => .inl (by injection e with e; exact e.symm)) (fun k hk => ?_))⟩
  ·
   have h := HD6.out;rw [HFU.out] at h;exact h
  rcases hk with e | e | e | e
  ·
   exact .inl (.inl e)
  ·
   exact .inr (HB.out k e)
  ·
   exact .inl (.inr (.inr (.inl e)))
  cases e
 have q0 : ((beginD d).1 == 0) = false := beq_eq_false_iff_ne.2 hr;have q1 : ((beginD d).1 != 0) = true := bne_iff_ne.2 hr;rw [op_stop hr];clear hr;generalize beginD d = X at *;obtain ⟨r0, d1⟩ := X;skip;go_enter Tryz.func14, Tryz.ntmps14
 go_wp2_with fail
 refine HBG.out.mono ?_;rintro e w2 ⟨rfl, hd2, hg2⟩;have HF := Hi (And.intro hd2 (HS1.out.trans (still_own vl vs vq hg2)));clear hd2 hg2 HBG HS1;go_wp2;go_ret;exact ⟨rfl, vl, vs, vq, HF.out.1, HF.out.2⟩
end Go.Proofs.YtibmfjacfbpfgaaGreatDoor.DFlush
namespace Go.Proofs.YtibmfjacfbpfgaaGreatDoor.DWrite
open Go.RowKit YtibmfjacfbpfgaaGreatDoorW PrintWords PrintLast PrintMore NameLaw NameCmp NameWalk NameRef NameKeepLaw NodeRes YtibmfjacfbpfgaaGreatDoor.Item Own TreeLaw TreeNodes SortIns SortSwap FillLaw DiffLaw RealLaw DoneLaw KeepLaw OpLaw OpKeep JoinLaw DAt StepA Step Real DSmall DRows DDone DWait DkLaw OwnLeaf DState
def fileP (s : List It) (path : ByteArray) : ByteArray × Int := if (realP s path).2 ≠ 0 then (⟨#[]⟩, (realP s path).2) else if kindOf s (realP s path).1 = 0 then (⟨#[]⟩, 40) else if kindOf s (realP s path).1 ≠ 2 then (⟨#[]⟩, 42) else ((realP s path).1, 0)
theorem file_err {s : List It} {path : ByteArray} (h : (realP s path).2 ≠ 0) : fileP s path = (⟨#[]⟩, (realP s path).2) := if_pos h
theorem file_none {s : List It} {path : ByteArray} (h : (realP s path).2 = 0) (h1 : kindOf s (realP s path).1 = 0) : fileP s path = (⟨#[]⟩, 40) := (if_neg (fun e : ¬ _ => e h)).trans (if_pos h1)
theorem file_kind {s : List It} {path : ByteArray} (h : (realP s path).2 = 0) (h1 : ¬ kindOf s (realP s path).1 = 0) (h2 : kindOf s (realP s path).1 ≠ 2) : fileP s path = (⟨#[]⟩, 42) := (if_neg (fun e : ¬ _ => e h)).trans ((if_neg h1).trans (if_pos h2))
theorem file_ok {s : List It} {path : ByteArray} (h : (realP s path).2 = 0) (h2 : kindOf s (realP s path).1 = 2) : fileP s path = ((realP s path).1, 0) := (if_neg (fun e : ¬ _ => e h)).trans ((if_neg (by rw [h2]; decide)).trans (if_neg (fun e => e h2)))
theorem file_any (W0 W : World) (b : Nat) (vl vs vq : Value) (d : Dk) (m : Nat) (hP : Prog W0 W b vl vs vq d m) (hm : m ≤ 900000) (path : ByteArray) (hp : path.size ≤ 10000) :
  Calls Tryz.prog 62 #[.pointer (some ⟨b, 0, none⟩), .string path] W fun e w' => e = .returned (.tuple #[.string (fileP d.shows path).1, .int .i64 (fileP d.shows path).2]) ∧ Below W.heap.size W w' := by
 have HP := Hi hP;have HR := Hi (hP.real hm path hp);have HSZ := Hi (real_small (s := d.shows) (path := path));have HL0 := Hi (file_err (s := d.shows) (path := path));have HL1 := Hi (file_none (s := d.shows) (path := path));have HL2 := Hi (file_kind (s := d.shows) (path := path));have HL3 := Hi (file_ok (s := d.shows) (path := path));clear hP;generalize fileP d.shows path = X at *;generalize realP d.shows path = R at *;obtain ⟨R0, R1⟩ := R
 by_cases her : R1 = 0
 ·
  subst her;have hsz := HSZ.out rfl;replace HL1 := Hi (HL1.out rfl);replace HL2 := Hi (HL2.out rfl);replace HL3 := Hi (HL3.out rfl);replace hsz : R0.size ≤ 70000 := hsz;have HK := Hi (fun w1 (h : Below W.heap.size W w1) => (HP.out.below h).kind hm R0 (by omega));generalize kindOf d.shows R0 = KK at *
  by_cases hkk : KK = 0
  ·
   subst hkk;have HX := Hi (HL1.out rfl);go_enter Tryz.func62, Tryz.ntmps62
   go_wp2_with fail
   refine HR.out.mono ?_;rintro e w1 ⟨rfl, hb1⟩;have HB1 := Hi hb1;clear hb1
   go_wp2_with fail
   refine (HK.out _ HB1.out).mono ?_;rintro e w2 ⟨rfl, hb2⟩;have HB2 := Hi (below_next HB1.out hb2);clear hb2;go_wp2;go_ret2;exact ⟨by rw [HX.out]; rfl, HB2.out⟩
  have q0 : (KK == 0) = false := beq_eq_false_iff_ne.2 hkk
  by_cases hk2 : KK = 2
  ·
   subst hk2;have HX := Hi (HL3.out rfl);go_enter Tryz.func62, Tryz.ntmps62
   go_wp2_with fail
   refine HR.out.mono ?_;rintro e w1 ⟨rfl, hb1⟩;have HB1 := Hi hb1;clear hb1
   go_wp2_with fail
   refine (HK.out _ HB1.out).mono ?_;rintro e w2 ⟨rfl, hb2⟩;have HB2 := Hi (below_next HB1.out hb2);clear hb2;go_wp2;go_ret2;exact ⟨by rw [HX.out]; rfl, HB2.out⟩
  have q2 : (KK == 2) = false := beq_eq_false_iff_ne.2 hk2;have q3 : (KK != 2) = true := bne_iff_ne.2 hk2;have HX := Hi (HL2.out hkk hk2);go_enter Tryz.func62, Tryz.ntmps62
  go_wp2_with fail
  refine HR.out.mono ?_;rintro e w1 ⟨rfl, hb1⟩;have HB1 := Hi hb1;clear hb1
  go_wp2_with fail
  refine (HK.out _ HB1.out).mono ?_;rintro e w2 ⟨rfl, hb2⟩;have HB2 := Hi (below_next HB1.out hb2);clear hb2;go_wp2;go_ret2;exact ⟨by rw [HX.out]; rfl, HB2.out⟩
 have q0 : (R1 == 0) = false := beq_eq_false_iff_ne.2 her;have q1 : (R1 != 0) = true := bne_iff_ne.2 her;have HX := Hi (HL0.out her);go_enter Tryz.func62, Tryz.ntmps62
 go_wp2_with fail
 refine HR.out.mono ?_;rintro e w1 ⟨rfl, hb1⟩;have HB1 := Hi hb1;clear hb1;go_wp2;go_ret2;exact ⟨by rw [HX.out]; rfl, HB1.out⟩
theorem file_cases (nz : Int → Nd → Nd) (d : Dk) (path : ByteArray) (n : Nd) (k : Int) (hk : k = 1 ∨ k = 5) : ((fileP d.shows path).2 ≠ 0 → ownD nz d k path ⟨#[]⟩ n = ((fileP d.shows path).2, d)) ∧ ((fileP d.shows path).2 = 0 → (realP d.shows path).2 = 0 ∧ kindOf d.shows (realP d.shows path).1 = 2 ∧ (fileP d.shows path).1 = (realP d.shows path).1) := by
 by_cases h : (realP d.shows path).2 = 0
 ·
  by_cases h1 : kindOf d.shows (realP d.shows path).1 = 0
  ·
   rw [file_none h h1];refine ⟨fun _ => ?_, fun e => by cases e⟩
   rcases hk with rfl | rfl
   ·
    exact write_none nz d path ⟨#[]⟩ n h h1
   exact sync_none nz d path ⟨#[]⟩ n h h1
  by_cases h2 : kindOf d.shows (realP d.shows path).1 = 2
  ·
   rw [file_ok h h2];exact ⟨fun e => absurd rfl e, fun _ => ⟨h, h2, rfl⟩⟩
  rw [file_kind h h1 h2];refine ⟨fun _ => ?_, fun e => by cases e⟩
  rcases hk with rfl | rfl
  ·
   exact write_kind nz d path ⟨#[]⟩ n h h1 h2
  exact sync_kind nz d path ⟨#[]⟩ n h h1 h2
 rw [file_err h]
 exact ⟨fun _ => own_real nz d k path ⟨#[]⟩ n (by rcases hk with rfl | rfl <;> decide) h, fun e => absurd e h⟩
theorem write_any (W0 W : World) (b : Nat) (vl vs vq : Value) (d : Dk) (m : Nat) (hP : Prog W0 W b vl vs vq d m) (hm : m ≤ 900000) (path : ByteArray) (hp : path.size ≤ 10000) (da : ByteArray) (hda : da.size ≤ 100000) :
  Calls Tryz.prog 19 #[.pointer (some ⟨b, 0, none⟩), .string path, .string da] W (OpPost W0 W b vl vs vq (opD nzP d 1 path ⟨#[]⟩ (0, 0, 0, 0, 0, 0, da))) := by
 have HP1 := Hi hP;have HS1 := Hi (Still.refl W (Owns b vl vs vq));have HOW := Hi (owns_lt hP.at_);have HW0 := Hi hP.low.size;have hbb := hP.at_.lt;have HBG := Hi (begin_any W0.heap.size b vl vs vq d _ HP1.out.at_ hP.bnd.fuse hP.bnd.fail)
 by_cases hr : (beginD d).1 = 0
 ·
  have HC := file_cases nzP (beginD d).2 path (0, 0, 0, 0, 0, 0, da) 1 (.inl rfl);have HL0 := Hi (fun h => op_fell (nz := nzP) hr rfl (HC.1 h) h);have HL1 := Hi (fun (h : (fileP (beginD d).2.shows path).2 = 0) (h3 : (beginD d).2.limit < (da.size : Int) + sumO (beginD d).2.shows (fileP (beginD d).2.shows path).1) => show opD nzP d 1 path ⟨#[]⟩ (0, 0, 0, 0, 0, 0, da) = (50, (beginD d).2) by obtain ⟨g1, g2, g3⟩ := HC.2 h; rw [g3] at h3; exact op_fell (nz := nzP) hr rfl (write_full nzP (beginD d).2 path ⟨#[]⟩ (0, 0, 0, 0, 0, 0, da) g1 g2 h3) (by decide));have HL2 := Hi (fun (h : (fileP (beginD d).2.shows path).2 = 0) (h3 : ¬ (beginD d).2.limit < (da.size : Int) + sumO (beginD d).2.shows (fileP (beginD d).2.shows path).1) => show opD nzP d 1 path ⟨#[]⟩ (0, 0, 0, 0, 0, 0, da) = (0, endD (waitD (beginD d).2 (1, (fileP (beginD d).2.shows path).1, ⟨#[]⟩, (0, 0, 0, 0, 0, 0, da), false))) by obtain ⟨g1, g2, g3⟩ := HC.2 h; rw [g3] at h3; have := op_done (nz := nzP) hr rfl (write_ok nzP (beginD d).2 path ⟨#[]⟩ (0, 0, 0, 0, 0, 0, da) g1 g2 h3); rw [← g3] at this; exact this);have HL3 := Hi (fun (h : (fileP (beginD d).2.shows path).2 = 0) => show (fileP (beginD d).2.shows path).1.size ≤ 70000 by obtain ⟨g1, g2, g3⟩ := HC.2 h; rw [g3]; exact real_small g1);clear HC;generalize opD nzP d 1 path ⟨#[]⟩ (0, 0, 0, 0, 0, 0, da) = X at *;have HPB := Hi (fun W2 h1 h2 => HP1.out.begun (W1 := W2) h1 h2);rw [hr] at HBG;have HSZ := Hi (real_small (s := (beginD d).2.shows) (path := path));clear hr hP HP1;generalize (beginD d).2 = d1 at *;go_enter Tryz.func19, Tryz.ntmps19
  go_wp2_with fail
  refine HBG.out.mono ?_;rintro e w2 ⟨rfl, hd2, hg2⟩;have HP2 := Hi (HPB.out w2 hd2 hg2);have HS2 := Hi (HS1.out.trans (still_own vl vs vq hg2));clear hd2 hg2 HBG HPB HS1;have HR2 := Hi (file_any W0 w2 b vl vs vq d1 m HP2.out hm path hp);generalize fileP d1.shows path = R at *;obtain ⟨R0, R1⟩ := R
  go_wp2_with fail
  refine HR2.out.mono ?_;rintro e w3 ⟨rfl, hb3⟩;have HP3 := Hi (HP2.out.below hb3);have HS3 := Hi (HS2.out.trans (Still.below hb3 _));clear hb3;clear HR2;skip
  by_cases her : R1 = 0
  ·
   subst her;have hsz := HL3.out rfl;replace HL1 := Hi (HL1.out rfl);replace HL2 := Hi (HL2.out rfl);have HFU := Hi (HP3.out.full hm R0 da.size (by omega));obtain ⟨FB, hFB⟩ : ∃ FB, FB = decide (d1.limit < (da.size : Int) + sumO d1.shows R0) := ⟨_, rfl⟩;rw [← hFB] at HFU;have HFB := Hi hFB;clear hFB HL3 HSZ
   go_wp2_with fail
   with_reducible refine HFU.out.mono ?_
   rintro e w4 ⟨rfl, hb4⟩;have HP4 := Hi (HP3.out.below hb4);have HS4 := Hi (HS3.out.trans (Still.below hb4 _));clear hb4;clear HFU
   cases FB with
   | true =>
    have HX := Hi (HL1.out (of_decide_eq_true HFB.out.symm));go_wp2;go_ret;exact ⟨by rw [HX.out]; rfl, vl, vs, vq, by rw [HX.out]; exact HP4.out.at_, HS4.out⟩
   | false =>
    have HX := Hi (HL2.out (by have := of_decide_eq_false HFB.out.symm; omega));have HW := Hi (HP4.out.wait hm 1 (.inr (.inl rfl)) R0 ⟨#[]⟩ 0 0 0 0 0 0 da (by omega) (by decide))
    go_wp2_with fail
    refine HW.out.mono ?_;rintro e w5 hp5;have HF := Hi (OpPost.pre HS4.out hp5);obtain ⟨rfl, _⟩ := hp5;clear HW;go_wp2;go_ret;rw [HX.out];exact HF.out
  have q0 : (R1 == 0) = false := beq_eq_false_iff_ne.2 her;have q1 : (R1 != 0) = true := bne_iff_ne.2 her;have HX := Hi (HL0.out her);go_wp2;go_ret;exact ⟨by rw [HX.out]; rfl, vl, vs, vq, by rw [HX.out]; exact HP3.out.at_, HS3.out⟩
 have q0 : ((beginD d).1 == 0) = false := beq_eq_false_iff_ne.2 hr;have q1 : ((beginD d).1 != 0) = true := bne_iff_ne.2 hr;rw [op_stop hr];clear hr;generalize beginD d = X at *;obtain ⟨r0, d1⟩ := X;skip;go_enter Tryz.func19, Tryz.ntmps19
 go_wp2_with fail
 refine HBG.out.mono ?_;rintro e w2 ⟨rfl, hd2, hg2⟩;have HF := Hi (And.intro hd2 (HS1.out.trans (still_own vl vs vq hg2)));clear hd2 hg2 HBG HS1;go_wp2;go_ret;exact ⟨rfl, vl, vs, vq, HF.out.1, HF.out.2⟩
end Go.Proofs.YtibmfjacfbpfgaaGreatDoor.DWrite
namespace Go.Proofs.YtibmfjacfbpfgaaGreatDoor.DSync
open Go.RowKit YtibmfjacfbpfgaaGreatDoorW PrintWords PrintLast PrintMore NameLaw NameCmp NameWalk NameRef NameKeepLaw NodeRes YtibmfjacfbpfgaaGreatDoor.Item Own TreeLaw TreeNodes SortIns SortSwap FillLaw DiffLaw RealLaw DoneLaw KeepLaw OpLaw OpKeep JoinLaw DAt StepA Step Real DSmall DRows DDone DWait DkLaw OwnLeaf DState DWrite DFlush
abbrev cellsC (c : Chg) : List Value := [.int .i64 c.1, .string c.2.1, .string c.2.2.1, .int .i64 c.2.2.2.1.1, .int .u32 c.2.2.2.1.2.1, .int .u32 c.2.2.2.1.2.2.1, .int .u32 c.2.2.2.1.2.2.2.1, .int .i64 c.2.2.2.1.2.2.2.2.1, .int .i64 c.2.2.2.1.2.2.2.2.2.1, .string c.2.2.2.1.2.2.2.2.2.2, .bool c.2.2.2.2]
theorem chK_MC (w : World) (base : Nat) (ok : Nat → Prop) (c : Chg) : chK.M w base ok c (cellsC c) := chK_M w base ok _ _ _ _ _ _ _ _ _ _ _
theorem chK_K {w : World} {c : Chg} {cs : List Value} (h : chK.K w c cs) : cs = cellsC c := by
 obtain ⟨a0, r0, rfl, h0, a1, r1, rfl, h1, a2, r2, rfl, h2, a3, r3, rfl, ⟨b0, s0, rfl, g0, b1, s1, rfl, g1, b2, s2, rfl, g2, b3, s3, rfl, g3, b4, s4, rfl, g4, b5, b6, rfl, g5, g6⟩, h4⟩ := h;have e0 : a0 = [Value.int .i64 c.1] := h0;have e1 : a1 = [Value.string c.2.1] := h1;have e2 : a2 = [Value.string c.2.2.1] := h2;have f0 : b0 = [Value.int .i64 c.2.2.2.1.1] := g0;have f1 : b1 = [Value.int .u32 c.2.2.2.1.2.1] := g1;have f2 : b2 = [Value.int .u32 c.2.2.2.1.2.2.1] := g2;have f3 : b3 = [Value.int .u32 c.2.2.2.1.2.2.2.1] := g3;have f4 : b4 = [Value.int .i64 c.2.2.2.1.2.2.2.2.1] := g4;have f5 : b5 = [Value.int .i64 c.2.2.2.1.2.2.2.2.2.1] := g5;have f6 : b6 = [Value.string c.2.2.2.1.2.2.2.2.2.2] := g6;have e4 : r3 = [Value.bool c.2.2.2.2] := h4;subst e0 e1 e2 f0 f1 f2 f3 f4 f5 f6 e4;rfl
theorem ch_get {W : World} {n g c N k : Nat} {ok : Nat → Prop} {l : List Chg} {x : Chg} (h : chK.R 93 W n ok (.slice (some ⟨g, 0, none⟩) N c) l) (hx : l[k]? = some x) : ∀ j u, (cellsC x)[j]? = some u → W.cell? ⟨g, k * 11 + j, none⟩ = some u := by
 intro j u hu;obtain ⟨hN, _, hC⟩ := Kd.R_reads' h;subst hN;obtain ⟨ad, e, hc⟩ := hC.2.2 (by have := (List.getElem?_eq_some_iff.1 hx).1; omega);injection e with e
 subst e;obtain ⟨cs, hl, hK, hcell⟩ := hc k _ hx;have := chK_K hK;subst this;have h := hcell j u hu;rw [Addr.add_lit, Nat.zero_add] at h;exact h
theorem ch_put {W : World} {n g c k j : Nat} {ok : Nat → Prop} {s : List Chg} {u : Value} {y : Chg} (h : chK.R 93 W n ok (.slice (some ⟨g, 0, none⟩) s.length c) s) (hk : k < s.length) (hj : j < 11) (hy : cellsC y = (cellsC s[k]).set j u) :
  chK.R 93 (W.setCell ⟨g, k * 11 + j, none⟩ u) n ok (.slice (some ⟨g, 0, none⟩) s.length c) (s.set k y) ∧ W.grownBy (W.setCell ⟨g, k * 11 + j, none⟩ u) (some g) ∧ W.frozen? ⟨g, k * 11 + j, none⟩ = false := by
 obtain ⟨hok, inner, ⟨hil, hown⟩, hr⟩ := h
 rcases hown with ⟨e, _⟩ | ⟨g', cap, cur, e, hb, hh, h1, h2, h3, h4⟩
 ·
  cases e
 injection e with e1 e2 e3
 injection e1 with e1
 injection e1 with e1
 subst e1 e3;have hil' : inner.length = s.length * 11 := hil;have hbase : ∀ q p, s[q]? = some p → (inner.drop (q * 11)).take 11 = cellsC p := fun q p hq => chK_K (chK.K_of_M (hr.2 q p hq))
 refine ⟨⟨hok, inner.set (k * 11 + j) u, ⟨?_, .inr ⟨g, c, cur.setIfInBounds (k * 11 + j) u, by rw [List.length_set], hb, blk_set hh _ u, by rw [List.length_set]; exact h1, h2, by rw [Array.size_setIfInBounds]; exact h3, ?_⟩⟩, ?_, fun q p hq => ?_⟩, set_grown _ _ _ _, frozen_of hh _⟩
 ·
  rw [List.length_set, List.length_set]; exact hil
 ·
  have h4' : cur.toList.take (s.length * 11) = inner := h4
  show (cur.setIfInBounds (k * 11 + j) u).toList.take ((s.set k y).length * 11) = _
  rw [List.length_set, Array.toList_setIfInBounds, List.take_set, h4']
 ·
  show (inner.set (k * 11 + j) u).length = (s.set k y).length * 11
  rw [List.length_set, List.length_set]; exact hil'
 have hcs : ((inner.set (k * 11 + j) u).drop (q * 11)).take 11 = cellsC p := by
  rw [List.getElem?_set] at hq
  by_cases hqk : k = q
  ·
   subst hqk;rw [if_pos rfl, if_pos hk] at hq;injection hq with hq
   subst hq;rw [List.drop_set, if_neg (by omega), List.take_set, show k * 11 + j - k * 11 = j by omega, hbase k _ (List.getElem?_eq_getElem hk), hy]
  rw [if_neg hqk] at hq;rw [← hbase q p hq, List.drop_set]
  by_cases hlt : k * 11 + j < q * 11
  ·
   rw [if_pos hlt]
  rw [if_neg hlt, List.take_set, List.set_eq_of_length_le (by rw [List.length_take]; omega)]
 show chK.M _ _ _ p (((inner.set (k * 11 + j) u).drop (q * 11)).take 11)
 rw [hcs];exact chK_MC _ _ _ _
theorem ch_form {W : World} {n N : Nat} {A : Option Addr} {c : Nat} {s : List Chg} (h : chK.R 93 W n (fun _ => True) (.slice A N c) s) (hs : 0 < s.length) : N = s.length ∧ ∃ g, A = some ⟨g, 0, none⟩ := by
 obtain ⟨inner, hl, hown⟩ := Kd.R_own h
 rcases hown with ⟨hv, h0⟩ | ⟨g, cap, cur, hv, hb, hh, _⟩
 ·
  injection hv with e1 e2 e3
  omega
 injection hv with e1 e2 e3
 exact ⟨e2, g, e1⟩
theorem drow {W W1 : World} {n b g N c : Nat} {vl vs : Value} {l s : List It} {q q1 : List Chg} {lim fu fa st : Int} {off : Bool} (h : DAt W n b vl vs (.slice (some ⟨g, 0, none⟩) N c) l s q lim fu fa st off) (hr : chK.R 93 W1 n (fun _ => True) (.slice (some ⟨g, 0, none⟩) N c) q1) (hg : W.grownBy W1 (some g)) : DAt W1 n b vl vs (.slice (some ⟨g, 0, none⟩) N c) l s q1 lim fu fa st off := by
 have hbn : some b ≠ (Value.slice (some ⟨g, 0, none⟩) N c).ownBlock := Kd.R_ne h.rq h.blk (by decide)
 have hne : ∀ (v : Value) (xs : List It) (ok : Nat → Prop), itemK.R 77 W n ok v xs → ∀ k, some g = some k → some k ≠ v.ownBlock := fun v xs ok hv k hk => by
  obtain ⟨inner, ho⟩ := Kd.R_own h.rq;obtain ⟨cells, hc⟩ := own_typed ho k hk;exact Kd.R_ne hv hc (by decide)
 exact ⟨(hg.block b h.lt hbn).trans h.blk, Kd.R_grown2 h.rl rfl hg (hne _ _ _ h.rl), Kd.R_grown2 h.rs rfl hg (hne _ _ _ h.rs), hr, h.nb⟩
def sureTo (p : ByteArray) (l : List Chg) (k : Nat) : List Chg := (l.take k).map (sureC p) ++ l.drop k
theorem sureTo_at {p : ByteArray} {l : List Chg} {k : Nat} (hk : k < l.length) : (sureTo p l k)[k]? = some l[k] := by
 unfold sureTo;have : ((l.take k).map (sureC p)).length = k := by rw [List.length_map, List.length_take]; omega
 rw [List.getElem?_append_right (by omega), this, Nat.sub_self, List.getElem?_drop, Nat.add_zero, List.getElem?_eq_getElem hk]
theorem sureTo_step {p : ByteArray} {l : List Chg} {k : Nat} (hk : k < l.length) : sureTo p l (k + 1) = (sureTo p l k).set k (sureC p l[k]) := by
 unfold sureTo;have : ((l.take k).map (sureC p)).length = k := by rw [List.length_map, List.length_take]; omega
 rw [List.set_append_right _ _ (by omega), this, Nat.sub_self, List.drop_eq_getElem_cons hk, List.set_cons_zero, List.take_succ_eq_append_getElem hk, List.map_append, List.append_assoc];rfl
theorem sureTo_len (p : ByteArray) (l : List Chg) (k : Nat) : (sureTo p l k).length = l.length := by
 unfold sureTo;rw [List.length_append, List.length_map, List.length_take, List.length_drop];omega
theorem own_fzc {W : World} {n g c N : Nat} {ok : Nat → Prop} {l : List Chg} (h : chK.R 93 W n ok (.slice (some ⟨g, 0, none⟩) N c) l) (j : Nat) : W.frozen? ⟨g, j, none⟩ = false := by
 obtain ⟨cells, hc⟩ := Kd.R_typed h g rfl;exact frozen_of hc j
theorem sync_any (W0 W : World) (b : Nat) (vl vs vq : Value) (d : Dk) (m : Nat) (hP : Prog W0 W b vl vs vq d m) (hm : m ≤ 900000) (path : ByteArray) (hp : path.size ≤ 10000) (nd : Nd) :
  Calls Tryz.prog 20 #[.pointer (some ⟨b, 0, none⟩), .string path] W (OpPost W0 W b vl vs vq (opD nzP d 5 path ⟨#[]⟩ nd)) := by
 obtain ⟨Aq, N, cq, hvq⟩ : ∃ Aq N cq, vq = .slice Aq N cq := by obtain ⟨A, c, e⟩ := Kd.R_slice hP.at_.rq; exact ⟨A, _, c, e⟩
 subst hvq;have HP1 := Hi hP;have HS1 := Hi (Still.refl W (Owns b vl vs (.slice Aq N cq)));have HOW := Hi (owns_lt hP.at_);have HW0 := Hi hP.low.size;have hbb := hP.at_.lt;have HBG := Hi (begin_any W0.heap.size b vl vs _ d _ HP1.out.at_ hP.bnd.fuse hP.bnd.fail)
 by_cases hr : (beginD d).1 = 0
 ·
  have HC := file_cases nzP (beginD d).2 path nd 5 (.inr rfl);have HL0 := Hi (fun h => op_fell (nz := nzP) hr rfl (HC.1 h) h);have HL1 := Hi (fun (h : (fileP (beginD d).2.shows path).2 = 0) => show opD nzP d 5 path ⟨#[]⟩ nd = (0, endD { (beginD d).2 with waits := (beginD d).2.waits.map (sureC (fileP (beginD d).2.shows path).1) }) by obtain ⟨g1, g2, g3⟩ := HC.2 h; have := op_done (nz := nzP) hr rfl (sync_ok nzP (beginD d).2 path ⟨#[]⟩ nd g1 g2); rw [← g3] at this; exact this);clear HC;generalize opD nzP d 5 path ⟨#[]⟩ nd = X at *;have HPB := Hi (fun W2 h1 h2 => HP1.out.begun (W1 := W2) h1 h2);rw [hr] at HBG;have HSZ := Hi (real_small (s := (beginD d).2.shows) (path := path));clear hr hP HP1;generalize (beginD d).2 = d1 at *;go_enter Tryz.func20, Tryz.ntmps20
  go_wp2_with fail
  refine HBG.out.mono ?_;rintro e w2 ⟨rfl, hd2, hg2⟩;have HP2 := Hi (HPB.out w2 hd2 hg2);have HS2 := Hi (HS1.out.trans (still_own vl vs _ hg2));clear hd2 hg2 HBG HPB HS1;have HR2 := Hi (file_any W0 w2 b vl vs _ d1 m HP2.out hm path hp);generalize fileP d1.shows path = R at *;obtain ⟨R0, R1⟩ := R
  go_wp2_with fail
  refine HR2.out.mono ?_;rintro e w3 ⟨rfl, hb3⟩;have HP3 := Hi (HP2.out.below hb3);have HS3 := Hi (HS2.out.trans (Still.below hb3 _));clear hb3;clear HR2
  by_cases her : R1 = 0
  ·
   subst her;replace HL1 := Hi (HL1.out rfl);have hN := (Kd.R_reads' HP3.out.at_.rq).1;have hN1 : N ≤ d1.waits.length := by omega
   have hN2 : d1.waits.length ≤ N := by omega
   clear hN;have hlq := HP3.out.bnd.len;have c2 := HP3.out.at_.c2;have HD0 : Hid (DAt w3 W0.heap.size b vl vs (.slice Aq N cq) d1.base d1.shows (sureTo R0 d1.waits 0) d1.limit d1.fuse d1.fail d1.steps d1.off) := Hi HP3.out.at_;clear HSZ HL0;go_wp2
   go_loopw [29] (fun i wr => ∃ k : Nat, k ≤ N ∧ i = .int .i64 k ∧ Hid (DAt wr W0.heap.size b vl vs (.slice Aq N cq) d1.base d1.shows (sureTo R0 d1.waits k) d1.limit d1.fuse d1.fail d1.steps d1.off) ∧ Hid (Still W wr (Owns b vl vs (.slice Aq N cq)) (Owns b vl vs (.slice Aq N cq)))) (fun i _ => N - (intOf i).toNat)
   case atStart => exact ⟨0, Nat.zero_le _, rfl, HD0, HS3⟩
   obtain ⟨k, hk, rfl, HDR, HSR⟩ := hrel
   by_cases hlt : k < N
   ·
    have hltI : (k : Int) < (N : Int) := by omega
    have hlt0 : k < d1.waits.length := by omega
    have hln := sureTo_len R0 d1.waits k;obtain ⟨-, g, hg⟩ := ch_form HDR.out.rq (by omega);subst hg;have hget := ch_get HDR.out.rq (sureTo_at (p := R0) hlt0);obtain ⟨x, hx⟩ : ∃ x, x = d1.waits[k] := ⟨_, rfl⟩;rw [← hx] at hget;have HXK := Hi hx;clear hx hln;obtain ⟨kk, pa, tp, ⟨kd, mo, ui, gi, mt, at_, da⟩, su⟩ := x;have e0 := hget 0 _ rfl;have e1 := hget 1 _ rfl;have e2 := hget 2 _ rfl;have e3 := hget 3 _ rfl;have e4 := hget 4 _ rfl;have e5 := hget 5 _ rfl;have e6 := hget 6 _ rfl;have e7 := hget 7 _ rfl;have e8 := hget 8 _ rfl;have e9 := hget 9 _ rfl;have e10 := hget 10 _ rfl;rw [Nat.add_zero] at e0;clear hget;have hb1 := below_one wr (.cells #[.int .i64 kk, .string pa, .string tp, .int .i64 kd, .int .u32 mo, .int .u32 ui, .int .u32 gi, .int .i64 mt, .int .i64 at_, .string da, .bool su] 93);have HN1 := Hi (heap_new wr (.cells #[.int .i64 kk, .string pa, .string tp, .int .i64 kd, .int .u32 mo, .int .u32 ui, .int .u32 gi, .int .i64 mt, .int .i64 at_, .string da, .bool su] 93));have HD1 := Hi (HDR.out.below hb1);have HS1 := Hi (HSR.out.trans (Still.below hb1 _));have f10 := pw_cell_below hb1 e10;clear hb1 HDR HSR;have c2 := HD1.out.c2;have HSQ := Hi (sureTo_step (p := R0) hlt0);rw [← HXK.out] at HSQ;have n0 : (wr.alloc (.cells #[.int .i64 kk, .string pa, .string tp, .int .i64 kd, .int .u32 mo, .int .u32 ui, .int .u32 gi, .int .i64 mt, .int .i64 at_, .string da, .bool su] 93)).cell? ⟨wr.heap.size, 0, none⟩ = some (.int .i64 kk) := by rw [cell_of HN1.out]; rfl
    have n1 : (wr.alloc (.cells #[.int .i64 kk, .string pa, .string tp, .int .i64 kd, .int .u32 mo, .int .u32 ui, .int .u32 gi, .int .i64 mt, .int .i64 at_, .string da, .bool su] 93)).cell? ⟨wr.heap.size, 1, none⟩ = some (.string pa) := by rw [cell_of HN1.out]; rfl
    have z10 := own_fzc HD1.out.rq (k * 11 + 10);have HP1 := HD1.out.rq
    have hset : ∀ (y : Chg), cellsC y = (cellsC (kk, pa, tp, (kd, mo, ui, gi, mt, at_, da), su)).set 10 (.bool true) → Hid (DAt ((wr.alloc (.cells #[.int .i64 kk, .string pa, .string tp, .int .i64 kd, .int .u32 mo, .int .u32 ui, .int .u32 gi, .int .i64 mt, .int .i64 at_, .string da, .bool su] 93)).setCell ⟨g, k * 11 + 10, none⟩ (.bool true)) W0.heap.size b vl vs (.slice (some ⟨g, 0, none⟩) N cq) d1.base d1.shows ((sureTo R0 d1.waits k).set k y) d1.limit d1.fuse d1.fail d1.steps d1.off) ∧ Hid (Still W ((wr.alloc (.cells #[.int .i64 kk, .string pa, .string tp, .int .i64 kd, .int .u32 mo, .int .u32 ui, .int .u32 gi, .int .i64 mt, .int .i64 at_, .string da, .bool su] 93)).setCell ⟨g, k * 11 + 10, none⟩ (.bool true)) (Owns b vl vs (.slice (some ⟨g, 0, none⟩) N cq)) (Owns b vl vs (.slice (some ⟨g, 0, none⟩) N cq))) := fun y hy => by
     have hln := sureTo_len R0 d1.waits k;have hN2 : N = (sureTo R0 d1.waits k).length := by omega
     have h2 := HP1;rw [hN2] at h2;have hp := ch_put (k := k) (j := 10) (u := .bool true) (y := y) h2 (by omega) (by decide) (by rw [hy]; congr 1; have := sureTo_at (p := R0) hlt0; rw [← HXK.out] at this; rw [(List.getElem?_eq_some_iff.1 this).2]);rw [← hN2] at hp;exact ⟨Hi (drow HD1.out hp.1 hp.2.1), Hi (HS1.out.trans (Still.grown hp.2.1 (fun j e => .inr (.inr (.inr e))) (fun j h => .inl h)))⟩
    clear HP1;have HSET := Hi hset;clear hset
    by_cases hpa : pa = R0
    ·
     obtain rfl : R0 = pa := hpa.symm;have qp : (R0.toList == R0.toList) = true := by simp
     by_cases hk0 : kk = 0
     ·
      subst hk0;skip;have hsu : sureC R0 (0, R0, tp, (kd, mo, ui, gi, mt, at_, da), su) = (0, R0, tp, (kd, mo, ui, gi, mt, at_, da), true) := by unfold sureC; rw [if_pos ⟨rfl, by simp⟩]
      rw [hsu] at HSQ;have HY := HSET.out (0, R0, tp, (kd, mo, ui, gi, mt, at_, da), true) rfl;have HYD := HY.1;have HYS := HY.2;rw [← HSQ.out] at HYD;clear HY HSET HSQ hsu;go_wp2;go_roundw
      case rel => exact ⟨k + 1, by omega, by go_num, HYD, HYS⟩
      case measure => simp [intOf]; omega
     have q0 : (kk == 0) = false := beq_eq_false_iff_ne.2 hk0
     by_cases hk1 : kk = 1
     ·
      subst hk1;skip;have hsu : sureC R0 (1, R0, tp, (kd, mo, ui, gi, mt, at_, da), su) = (1, R0, tp, (kd, mo, ui, gi, mt, at_, da), true) := by unfold sureC; rw [if_pos ⟨rfl, by simp⟩]
      rw [hsu] at HSQ;have HY := HSET.out (1, R0, tp, (kd, mo, ui, gi, mt, at_, da), true) rfl;have HYD := HY.1;have HYS := HY.2;rw [← HSQ.out] at HYD;clear HY HSET HSQ hsu;go_wp2;go_roundw
      case rel => exact ⟨k + 1, by omega, by go_num, HYD, HYS⟩
      case measure => simp [intOf]; omega
     have q1 : (kk == 1) = false := beq_eq_false_iff_ne.2 hk1;skip;have hsu : sureC R0 (kk, R0, tp, (kd, mo, ui, gi, mt, at_, da), su) = (kk, R0, tp, (kd, mo, ui, gi, mt, at_, da), su) := by unfold sureC; rw [if_neg (by rintro ⟨a1, a2⟩; first | exact absurd a1 (by assumption) | (simp only at a2; omega))]
     rw [hsu] at HSQ;have HSQ2 : Hid (sureTo R0 d1.waits (k + 1) = sureTo R0 d1.waits k) := Hi (HSQ.out.trans (by have := sureTo_at (p := R0) hlt0; rw [← HXK.out] at this; obtain ⟨q1, q2⟩ := List.getElem?_eq_some_iff.1 this; exact (congrArg (List.set _ k) q2.symm).trans (List.set_getElem_self q1)));rw [← HSQ2.out] at HD1;clear HSET HSQ HSQ2 hsu;go_wp2;go_roundw
     case rel => exact ⟨k + 1, by omega, by go_num, HD1, HS1⟩
     case measure => simp [intOf]; omega
    have qp : (pa.toList == R0.toList) = false := by rw [toList_inj]; exact decide_eq_false hpa
    skip;have hsu : sureC R0 (kk, pa, tp, (kd, mo, ui, gi, mt, at_, da), su) = (kk, pa, tp, (kd, mo, ui, gi, mt, at_, da), su) := by unfold sureC; rw [if_neg (by rintro ⟨a1, a2⟩; first | exact absurd a1 (by assumption) | (simp only at a2; omega))]
    rw [hsu] at HSQ;have HSQ2 : Hid (sureTo R0 d1.waits (k + 1) = sureTo R0 d1.waits k) := Hi (HSQ.out.trans (by have := sureTo_at (p := R0) hlt0; rw [← HXK.out] at this; obtain ⟨q1, q2⟩ := List.getElem?_eq_some_iff.1 this; exact (congrArg (List.set _ k) q2.symm).trans (List.set_getElem_self q1)));rw [← HSQ2.out] at HD1;clear HSET HSQ HSQ2 hsu;go_wp2;go_roundw
    case rel => exact ⟨k + 1, by omega, by go_num, HD1, HS1⟩
    case measure => simp [intOf]; omega
   have hj2 : ¬ (k : Int) < (N : Int) := by omega
   have hkN : k = N := by omega
   subst hkN;have hsq : sureTo R0 d1.waits k = d1.waits.map (sureC R0) := by unfold sureTo; rw [List.take_of_length_le (by omega), List.drop_of_length_le (by omega), List.append_nil]
   rw [hsq] at HDR;clear hsq;have HE := Hi (end_any W0.heap.size b vl vs (.slice Aq k cq) d1.base d1.shows _ d1.limit d1.fuse d1.fail d1.steps d1.off _ HDR.out HP3.out.bnd.fuse HP3.out.bnd.steps.1 (by have := HP3.out.bnd.steps.2; omega));obtain ⟨fu1, hfu1⟩ : ∃ f, f = (if 0 < d1.fuse then d1.fuse - 1 else d1.fuse) := ⟨_, rfl⟩;rw [← hfu1] at HE;have HFU := Hi hfu1;clear hfu1
   go_wp2_with fail
   refine HE.out.mono ?_;rintro e w6 ⟨rfl, hd6, hg6⟩;have HD6 := Hi hd6;have HS6 := Hi (HSR.out.trans (still_own _ _ _ hg6));clear hd6 hg6 HE;go_wp2;go_ret;rw [HL1.out];refine ⟨rfl, vl, vs, .slice Aq k cq, ?_, HS6.out⟩;have h := HD6.out;rw [HFU.out] at h
   show DAt w6 W0.heap.size b vl vs _ d1.base ((d1.waits.map (sureC R0)).foldl doneP d1.base) _ _ _ _ _ _
   rw [fold_sure];exact h
  have q0 : (R1 == 0) = false := beq_eq_false_iff_ne.2 her;have q1 : (R1 != 0) = true := bne_iff_ne.2 her;have HX := Hi (HL0.out her);go_wp2;go_ret;exact ⟨by rw [HX.out]; rfl, vl, vs, _, by rw [HX.out]; exact HP3.out.at_, HS3.out⟩
 have q0 : ((beginD d).1 == 0) = false := beq_eq_false_iff_ne.2 hr;have q1 : ((beginD d).1 != 0) = true := bne_iff_ne.2 hr;rw [op_stop hr];clear hr;generalize beginD d = X at *;obtain ⟨r0, d1⟩ := X;skip;go_enter Tryz.func20, Tryz.ntmps20
 go_wp2_with fail
 refine HBG.out.mono ?_;rintro e w2 ⟨rfl, hd2, hg2⟩;have HF := Hi (And.intro hd2 (HS1.out.trans (still_own vl vs _ hg2)));clear hd2 hg2 HBG HS1;go_wp2;go_ret;exact ⟨rfl, vl, vs, _, HF.out.1, HF.out.2⟩
end Go.Proofs.YtibmfjacfbpfgaaGreatDoor.DSync
namespace Go.Proofs.YtibmfjacfbpfgaaGreatDoor.DMake
open Go.RowKit YtibmfjacfbpfgaaGreatDoorW PrintWords PrintLast PrintMore NameLaw NameCmp NameWalk NameRef NameKeepLaw NodeRes YtibmfjacfbpfgaaGreatDoor.Item Own TreeLaw TreeNodes SortIns SortSwap FillLaw DiffLaw RealLaw DoneLaw KeepLaw OpLaw OpKeep JoinLaw DAt StepA Step Real DSmall DRows DDone DWait DkLaw OwnLeaf DState
theorem make_any (W0 W : World) (b : Nat) (vl vs vq : Value) (d : Dk) (m : Nat) (hP : Prog W0 W b vl vs vq d m) (hm : m ≤ 900000) (path : ByteArray) (hp : path.size ≤ 10000) (kd mo ui gi mt at_ : Int) (da : ByteArray) (hda : da.size ≤ 100000) :
  Calls Tryz.prog 17 #[.pointer (some ⟨b, 0, none⟩), .string path, .agg #[.int .i64 kd, .int .u32 mo, .int .u32 ui, .int .u32 gi, .int .i64 mt, .int .i64 at_, .string da]] W (OpPost W0 W b vl vs vq (opD nzP d 0 path ⟨#[]⟩ (kd, mo, ui, gi, mt, at_, da))) := by
 have hmo := and_rights mo;have HDS := Hi (show da.size = da.data.toList.length from (len_data da).symm);have hb1 := below_one W (.cells #[.int .i64 kd, .int .u32 mo, .int .u32 ui, .int .u32 gi, .int .i64 mt, .int .i64 at_, .string da] 34);have HN1 := Hi (heap_new W (.cells #[.int .i64 kd, .int .u32 mo, .int .u32 ui, .int .u32 gi, .int .i64 mt, .int .i64 at_, .string da] 34));have HP1 := Hi (hP.below hb1);have HS1 := Hi (Still.below hb1 (Owns b vl vs vq));have HOW := Hi (owns_lt hP.at_);have HW0 := Hi hP.low.size;have hbb := hP.at_.lt;clear hb1;have HBG := Hi (begin_any W0.heap.size b vl vs vq d _ HP1.out.at_ hP.bnd.fuse hP.bnd.fail)
 by_cases hr : (beginD d).1 = 0
 ·
  have HL0 := Hi (fun h => op_fell (nz := nzP) hr rfl (own_real nzP (beginD d).2 0 path ⟨#[]⟩ (kd, mo, ui, gi, mt, at_, da) (by decide) h) h);have HL1 := Hi (fun h h1 => op_fell (nz := nzP) hr rfl (make_kind nzP (beginD d).2 path ⟨#[]⟩ (kd, mo, ui, gi, mt, at_, da) h h1) (by decide));have HL2 := Hi (fun h h1 h2 => op_fell (nz := nzP) hr rfl (make_there nzP (beginD d).2 path ⟨#[]⟩ (kd, mo, ui, gi, mt, at_, da) h h1 h2) (by decide));have HL3 := Hi (fun h h1 h2 h3 => op_fell (nz := nzP) hr rfl (make_full nzP (beginD d).2 path ⟨#[]⟩ (kd, mo, ui, gi, mt, at_, da) h h1 h2 h3) (by decide));have HL4 := Hi (fun h h1 h2 h3 => op_done (nz := nzP) hr rfl (make_ok nzP (beginD d).2 path ⟨#[]⟩ (kd, mo, ui, gi, mt, at_, da) h h1 h2 h3));generalize opD nzP d 0 path ⟨#[]⟩ (kd, mo, ui, gi, mt, at_, da) = X at *;have HPB := Hi (fun W2 h1 h2 => HP1.out.begun (W1 := W2) h1 h2);rw [hr] at HBG;have HSZ := Hi (real_small (s := (beginD d).2.shows) (path := path));clear hr hP HP1;generalize (beginD d).2 = d1 at *;go_enter Tryz.func17, Tryz.ntmps17
  go_wp2_with fail
  generalize W.alloc (.cells #[.int .i64 kd, .int .u32 mo, .int .u32 ui, .int .u32 gi, .int .i64 mt, .int .i64 at_, .string da] 34) = W1 at *;obtain ⟨bn, hbn⟩ : ∃ bn, bn = W.heap.size := ⟨_, rfl⟩;rw [← hbn] at HN1 ⊢;have hbn2 : W.heap.size ≤ bn := by omega
  clear hbn;refine HBG.out.mono ?_;rintro e w2 ⟨rfl, hd2, hg2⟩;have HP2 := Hi (HPB.out w2 hd2 hg2);have HS2 := Hi (HS1.out.trans (still_own vl vs vq hg2));have HN2 := Hi ((hg2.block bn (Own.lo HN1.out) (fun e => by injection e with e; omega)).trans HN1.out);clear HN1;clear hd2 hg2 HBG HPB HS1;have HR2 := Hi (HP2.out.real hm path hp);generalize realP d1.shows path = R at *;obtain ⟨R0, R1⟩ := R
  go_wp2_with fail
  refine HR2.out.mono ?_;rintro e w3 ⟨rfl, hb3⟩;have HP3 := Hi (HP2.out.below hb3);have HS3 := Hi (HS2.out.trans (Still.below hb3 _));have HN3 := Hi (Own.kp hb3 HN2.out);clear hb3;clear HR2;skip;have n1 : w3.cell? ⟨bn, 1, none⟩ = some (.int .u32 mo) := by rw [cell_of HN3.out]; rfl
  have z1 : w3.frozen? ⟨bn, 1, none⟩ = false := frozen_of HN3.out 1;have HN4 := Hi (blk_put HN3.out 1 (.int .u32 (masked mo)) rfl);have HP4 := Hi (HP3.out.far (g := bn) (fun k hk => by have := HOW.out k hk; omega) (by have := HW0.out; omega) 1 (.int .u32 (masked mo)));have HS4 := Hi (still_new HS3.out (g := bn) (by omega) 1 (.int .u32 (masked mo)));obtain ⟨g0, g1, g2, g3, g4, g5, g6⟩ := Own.cs7 HN4.out
  by_cases her : R1 = 0
  ·
   subst her;have hsz := HSZ.out rfl
   by_cases k1 : kd < 1
   ·
    have HX := Hi (HL1.out rfl (show kd < 1 ∨ 3 < kd ∨ (kd = 1 ∧ 0 < da.size) by omega));go_wp2;go_ret;exact ⟨by rw [HX.out]; rfl, vl, vs, vq, by rw [HX.out]; exact HP4.out.at_, HS4.out⟩
   by_cases k2 : 3 < kd
   ·
    have HX := Hi (HL1.out rfl (show kd < 1 ∨ 3 < kd ∨ (kd = 1 ∧ 0 < da.size) by omega));go_wp2;go_ret;exact ⟨by rw [HX.out]; rfl, vl, vs, vq, by rw [HX.out]; exact HP4.out.at_, HS4.out⟩
   by_cases k3 : kd = 1
   ·
    subst k3
    by_cases k5 : da.toList = []
    ·
     have k6 : da.toList.isEmpty = true := by rw [k5]; rfl
     have k7 : da.size = 0 := by rw [HDS.out, ← Lib.toList_data, k5]; rfl
     have k8 : (da.toList == []) = true := by rw [k5]; rfl
     have HNB := Hi (show ¬ ((1 : Int) < 1 ∨ 3 < (1 : Int) ∨ ((1 : Int) = 1 ∧ 0 < da.size)) by omega);replace HL2 := Hi (HL2.out rfl HNB.out);replace HL3 := Hi (HL3.out rfl HNB.out);replace HL4 := Hi (HL4.out rfl HNB.out);clear HNB;have HK := Hi (HP4.out.kind hm R0 (by omega));skip;generalize kindOf d1.shows R0 = KK at *
     go_wp2_with fail
     generalize w3.setCell ⟨bn, 1, none⟩ (.int .u32 (masked mo)) = w4 at *;refine HK.out.mono ?_;rintro e w5 ⟨rfl, hb5⟩;have HP5 := Hi (HP4.out.below hb5);have HS5 := Hi (HS4.out.trans (Still.below hb5 _));have HN5 := Hi (Own.kp hb5 HN4.out);clear hb5;clear HK g0 g1 g2 g3 g4 g5 g6 k5 k6 k7 k8;have g6 : w5.cell? ⟨bn, 6, none⟩ = some (.string da) := by rw [cell_of HN5.out]; rfl
     by_cases hkk : KK = 0
     ·
      subst hkk;have HFU := Hi (HP5.out.full hm R0 da.size (by omega));replace HL3 := Hi (HL3.out rfl);replace HL4 := Hi (HL4.out rfl);obtain ⟨FB, hFB⟩ : ∃ FB, FB = decide (d1.limit < (da.size : Int) + sumO d1.shows R0) := ⟨_, rfl⟩;rw [← hFB] at HFU;have HFB := Hi hFB;clear hFB
      go_wp2_with fail
      with_reducible refine HFU.out.mono ?_
      rintro e w6 ⟨rfl, hb6⟩;have HP6 := Hi (HP5.out.below hb6);have HS6 := Hi (HS5.out.trans (Still.below hb6 _));have HN6 := Hi (Own.kp hb6 HN5.out);clear hb6;clear HFU g6
      cases FB with
      | true =>
       have HX := Hi (HL3.out (of_decide_eq_true HFB.out.symm));go_wp2;go_ret;exact ⟨by rw [HX.out]; rfl, vl, vs, vq, by rw [HX.out]; exact HP6.out.at_, HS6.out⟩
      | false =>
       have HX := Hi (HL4.out (by have := of_decide_eq_false HFB.out.symm; omega));have HW := Hi (HP6.out.waitP hm R0 ⟨#[]⟩ 1 (masked mo) ui gi mt at_ da (by omega));obtain ⟨g0, g1, g2, g3, g4, g5, g6⟩ := Own.cs7 HN6.out
       go_wp2_with fail
       refine HW.out.mono ?_;rintro e w7 hp7;have HF := Hi (OpPost.pre HS6.out hp7);obtain ⟨rfl, _⟩ := hp7;clear HW g0 g1 g2 g3 g4 g5 g6;go_wp2;go_ret;rw [HX.out];exact HF.out
     have q0 : (KK == 0) = false := beq_eq_false_iff_ne.2 hkk;have q1 : (KK != 0) = true := bne_iff_ne.2 hkk;have HX := Hi (HL2.out hkk);go_wp2;go_ret;exact ⟨by rw [HX.out]; rfl, vl, vs, vq, by rw [HX.out]; exact HP5.out.at_, HS5.out⟩
    have k6 : da.toList.isEmpty = false := by simp [k5]
    have k7 : 0 < da.size := by rw [HDS.out, ← Lib.toList_data]; exact List.length_pos_iff.2 k5
    have HX := Hi (HL1.out rfl (show (1 : Int) < 1 ∨ 3 < (1 : Int) ∨ ((1 : Int) = 1 ∧ 0 < da.size) by omega));go_wp2;go_ret;exact ⟨by rw [HX.out]; rfl, vl, vs, vq, by rw [HX.out]; exact HP4.out.at_, HS4.out⟩
   have k4 : (kd == 1) = false := beq_eq_false_iff_ne.2 k3;have HNB := Hi (show ¬ (kd < 1 ∨ 3 < kd ∨ (kd = 1 ∧ 0 < da.size)) by omega);replace HL2 := Hi (HL2.out rfl HNB.out);replace HL3 := Hi (HL3.out rfl HNB.out);replace HL4 := Hi (HL4.out rfl HNB.out);clear HNB;have HK := Hi (HP4.out.kind hm R0 (by omega));skip;generalize kindOf d1.shows R0 = KK at *
   go_wp2_with fail
   generalize w3.setCell ⟨bn, 1, none⟩ (.int .u32 (masked mo)) = w4 at *;refine HK.out.mono ?_;rintro e w5 ⟨rfl, hb5⟩;have HP5 := Hi (HP4.out.below hb5);have HS5 := Hi (HS4.out.trans (Still.below hb5 _));have HN5 := Hi (Own.kp hb5 HN4.out);clear hb5;clear HK g0 g1 g2 g3 g4 g5 g6;have g6 : w5.cell? ⟨bn, 6, none⟩ = some (.string da) := by rw [cell_of HN5.out]; rfl
   by_cases hkk : KK = 0
   ·
    subst hkk;have HFU := Hi (HP5.out.full hm R0 da.size (by omega));replace HL3 := Hi (HL3.out rfl);replace HL4 := Hi (HL4.out rfl);obtain ⟨FB, hFB⟩ : ∃ FB, FB = decide (d1.limit < (da.size : Int) + sumO d1.shows R0) := ⟨_, rfl⟩;rw [← hFB] at HFU;have HFB := Hi hFB;clear hFB
    go_wp2_with fail
    with_reducible refine HFU.out.mono ?_
    rintro e w6 ⟨rfl, hb6⟩;have HP6 := Hi (HP5.out.below hb6);have HS6 := Hi (HS5.out.trans (Still.below hb6 _));have HN6 := Hi (Own.kp hb6 HN5.out);clear hb6;clear HFU g6
    cases FB with
    | true =>
     have HX := Hi (HL3.out (of_decide_eq_true HFB.out.symm));go_wp2;go_ret;exact ⟨by rw [HX.out]; rfl, vl, vs, vq, by rw [HX.out]; exact HP6.out.at_, HS6.out⟩
    | false =>
     have HX := Hi (HL4.out (by have := of_decide_eq_false HFB.out.symm; omega));have HW := Hi (HP6.out.waitP hm R0 ⟨#[]⟩ kd (masked mo) ui gi mt at_ da (by omega));obtain ⟨g0, g1, g2, g3, g4, g5, g6⟩ := Own.cs7 HN6.out
     go_wp2_with fail
     refine HW.out.mono ?_;rintro e w7 hp7;have HF := Hi (OpPost.pre HS6.out hp7);obtain ⟨rfl, _⟩ := hp7;clear HW g0 g1 g2 g3 g4 g5 g6;go_wp2;go_ret;rw [HX.out];exact HF.out
   have q0 : (KK == 0) = false := beq_eq_false_iff_ne.2 hkk;have q1 : (KK != 0) = true := bne_iff_ne.2 hkk;have HX := Hi (HL2.out hkk);go_wp2;go_ret;exact ⟨by rw [HX.out]; rfl, vl, vs, vq, by rw [HX.out]; exact HP5.out.at_, HS5.out⟩
  have q0 : (R1 == 0) = false := beq_eq_false_iff_ne.2 her;have q1 : (R1 != 0) = true := bne_iff_ne.2 her;have HX := Hi (HL0.out her);go_wp2;go_ret;exact ⟨by rw [HX.out]; rfl, vl, vs, vq, by rw [HX.out]; exact HP4.out.at_, HS4.out⟩
 have q0 : ((beginD d).1 == 0) = false := beq_eq_false_iff_ne.2 hr;have q1 : ((beginD d).1 != 0) = true := bne_iff_ne.2 hr;rw [op_stop hr];clear hr;generalize beginD d = X at *;obtain ⟨r0, d1⟩ := X;skip;go_enter Tryz.func17, Tryz.ntmps17
 go_wp2_with fail
 generalize W.alloc (.cells #[.int .i64 kd, .int .u32 mo, .int .u32 ui, .int .u32 gi, .int .i64 mt, .int .i64 at_, .string da] 34) = W1 at *;refine HBG.out.mono ?_;rintro e w2 ⟨rfl, hd2, hg2⟩;have HF := Hi (And.intro hd2 (HS1.out.trans (still_own vl vs vq hg2)));clear hd2 hg2 HBG HS1;go_wp2;go_ret;exact ⟨rfl, vl, vs, vq, HF.out.1, HF.out.2⟩
end Go.Proofs.YtibmfjacfbpfgaaGreatDoor.DMake
namespace Go.Proofs.YtibmfjacfbpfgaaGreatDoor.DRemove
open Go.RowKit YtibmfjacfbpfgaaGreatDoorW PrintWords PrintLast PrintMore NameLaw NameCmp NameWalk NameRef NameKeepLaw NodeRes YtibmfjacfbpfgaaGreatDoor.Item Own TreeLaw TreeNodes SortIns SortSwap FillLaw DiffLaw RealLaw DoneLaw KeepLaw OpLaw OpKeep JoinLaw DAt StepA Step Real DSmall DRows DDone DWait DkLaw OwnLeaf DState TreeFn NameUse
theorem tindex_any (F bc : Nat) (p : It → Bool) (l : List It) (A : Option Addr) (c : Nat) (W : World) (hl : ItemC W A l) (hp : Asks W F bc p l) :
  Calls Tryz.prog 100 #[.slice A l.length c, .func (.func F) #[] #[.pointer (some ⟨bc, 0, none⟩)]] W fun e w' => e = .returned (.int .i64 (idxP p l)) ∧ Below W.heap.size W w' := by
 have HL := Hi hl;have l1 := hl.2.1;have eg := hp.1;have HP := Hi hp.2;have HK0 : Hid (∀ j (hj : j < l.length), j < 0 → p l[j] = false) := Hi (fun j hj h => absurd h (Nat.not_lt_zero _));clear hl hp;go_enter Tryz.func100, Tryz.ntmps100;go_wp2
 go_loopw [5, 8] (fun vi v wr => ∃ k : Nat, k ≤ l.length ∧ v = .int .i64 k ∧ Hid (∀ j (hj : j < l.length), j < k → p l[j] = false) ∧ Hid (Below W.heap.size W wr)) (fun vi v _ => l.length - (intOf v).toNat)
 case atStart => exact ⟨0, by omega, rfl, HK0, Hi (Below.refl _ _)⟩
 clear HK0;obtain ⟨k, hk, rfl, HK, HB⟩ := hrel
 by_cases hlt : k < l.length
 ·
  obtain ⟨ad, rfl, e0, e1, e2, e3, e4, e5, e6, e7⟩ := item_at (Kd.C_below HL.out HB.out) hlt;have hltI : (k : Int) < l.length := by omega
  have hc := HP.out l[k].1 l[k].2.1 l[k].2.2.1 l[k].2.2.2.1 l[k].2.2.2.2.1 l[k].2.2.2.2.2.1 l[k].2.2.2.2.2.2.1 l[k].2.2.2.2.2.2.2 (List.getElem_mem hlt) wr HB.out;have hpx : Hid (∃ q, q = p l[k]) := Hi ⟨_, rfl⟩;have HX : Hid (l[k] = l[k]) := Hi rfl;obtain ⟨x, hx⟩ : ∃ x, x = l[k] := ⟨_, rfl⟩;rw [← hx] at e0 e1 e2 e3 e4 e5 e6 e7 hc;have HXK := Hi hx;clear hx hpx HX;obtain ⟨x0, x1, x2, x3, x4, x5, x6, x7⟩ := x;simp only at e0 e1 e2 e3 e4 e5 e6 e7 hc;obtain ⟨q, hq⟩ : ∃ q, q = p (x0, x1, x2, x3, x4, x5, x6, x7) := ⟨_, rfl⟩;rw [← hq] at hc;have HQ := Hi hq;have HC := Hi hc;clear hc hq
  cases q with
  | true =>
   have HI : Hid (idxP p l = (k : Int)) := Hi (by
    have e := idx_at hlt (fun j hj => HK.out j (by omega) hj) (by rw [← HXK.out]; exact HQ.out.symm);unfold idxP
    rw [e, if_pos hlt])
   go_wp2_with (go_at_fn F; refine HC.out.mono ?_; rintro e w1 ⟨rfl, hb⟩; have HB1 := Hi (below_next HB.out hb); clear hb)
   go_ret;exact ⟨by rw [HI.out]; rfl, HB1.out⟩
  | false =>
   have HK1 : Hid (∀ j (hj : j < l.length), j < k + 1 → p l[j] = false) := Hi (fun j hj h => by
    rcases Nat.lt_or_ge j k with h2 | h2
    ·
     exact HK.out j hj h2
    have : j = k := by omega
    subst this
    rw [← HXK.out]; exact HQ.out.symm)
   clear HXK HK HQ
   go_wp2_with (go_at_fn F; refine HC.out.mono ?_; rintro e w1 ⟨rfl, hb⟩; have HB1 := Hi (below_next HB.out hb); clear hb)
   go_roundw
   case rel => exact ⟨k + 1, by omega, by go_num, HK1, HB1⟩
   case measure => simp [intOf]; omega
 have HI : Hid (idxP p l = -1) := Hi (by
  have e := idx_none (p := p) (l := l) (fun j hj => HK.out j hj (by omega));unfold idxP
  rw [e, if_neg (Nat.lt_irrefl _)])
 go_wp2;go_ret;exact ⟨by rw [HI.out]; rfl, HB.out⟩
theorem rm1_any (x0 : ByteArray) (x1 x2 x3 x4 x5 x6 : Int) (x7 s : ByteArray) (bc : Nat) (w : World) (h1 : x0.size ≤ 10000) (hc : w.cell? ⟨bc, 0, none⟩ = some (.string s)) :
  Calls Tryz.prog 64 #[.agg #[.string x0, .int .i64 x1, .int .u32 x2, .int .u32 x3, .int .u32 x4, .int .i64 x5, .int .i64 x6, .string x7], .pointer (some ⟨bc, 0, none⟩)] w fun e w' => e = .returned (.bool (decide (parentT x0 = s))) ∧ Below w.heap.size w w' := by
 have hb1 := below_one w (.cells #[.string x0, .int .i64 x1, .int .u32 x2, .int .u32 x3, .int .u32 x4, .int .i64 x5, .int .i64 x6, .string x7] 77);have c1 : (w.alloc (.cells #[.string x0, .int .i64 x1, .int .u32 x2, .int .u32 x3, .int .u32 x4, .int .i64 x5, .int .i64 x6, .string x7] 77)).drew.cell? ⟨w.heap.size, 0, none⟩ = some (.string x0) := by show (w.alloc _).cell? _ = _; rw [cell_of (heap_new w _)]; rfl
 have c2 : (w.alloc (.cells #[.string x0, .int .i64 x1, .int .u32 x2, .int .u32 x3, .int .u32 x4, .int .i64 x5, .int .i64 x6, .string x7] 77)).drew.cell? ⟨bc, 0, none⟩ = some (.string s) := pw_cell_below hb1 hc;have HB2 : Hid (Below w.heap.size w (w.alloc (.cells #[.string x0, .int .i64 x1, .int .u32 x2, .int .u32 x3, .int .u32 x4, .int .i64 x5, .int .i64 x6, .string x7] 77)).drew) := Hi (below_drew hb1);clear hb1 hc;go_enter Tryz.func64, Tryz.ntmps64;go_wp2;generalize w.alloc (.cells #[.string x0, .int .i64 x1, .int .u32 x2, .int .u32 x3, .int .u32 x4, .int .i64 x5, .int .i64 x6, .string x7] 77) = w1 at *;obtain ⟨bx, hbx⟩ : ∃ bx, bx = w.heap.size := ⟨_, rfl⟩;rw [← hbx] at c1 ⊢;have HBX := Hi hbx;clear hbx;refine start_ (n := 6) (S := fun w' => w'.cell? ⟨bx, 0, none⟩ = some (.string x0) ∧ w'.cell? ⟨bc, 0, none⟩ = some (.string s)) (ds := []) (bm 6 0) (by kernel_rfl) rfl rfl ⟨c1, c2⟩ (fun hHeld => ?_);generalize w1.drew = w2 at *;refine pure_ (i := 0) (N := some 4) (v := ?_) (a' := ?_) (bm 6 1) rfl rfl (by kernel_rfl) (fun _ _ _ h => h) (Or.inl ⟨by rfl, ?_⟩) ?_ ?_;rotate_left;intro w';go_simp;(with_reducible rfl);rotate_left;simp only [Act.put, nA, nZ, nS, i64_w, i32_w];rfl;refine take_ (i := 1) (N := some 5) (v := ?_) (a' := ?_) (bm 6 3) rfl rfl (by kernel_rfl) (fun _ _ _ h => h) (Or.inl ⟨by rfl, ?_⟩) hHeld ?_ ?_;rotate_left;rintro w' ⟨s0, s1⟩;go_simp;(with_reducible rfl);rotate_left;simp only [Act.put, nA, nZ, nS, i64_w, i32_w];rfl;refine take_ (i := 3) (N := some 7) (v := ?_) (a' := ?_) (bm 6 11) rfl rfl (by kernel_rfl) (fun _ _ _ h => h) (Or.inl ⟨by rfl, ?_⟩) hHeld ?_ ?_;rotate_left;rintro w' ⟨s0, s1⟩;go_simp;(with_reducible rfl);rotate_left;simp only [Act.put, nA, nZ, nS, i64_w, i32_w];rfl;refine one_ (i := 2) (N := some 6) (bm 6 15) rfl rfl (by kernel_rfl) (by decide) (fun K hK => ?_);refine goes_ Tryz.func65 (by kernel_rfl) rfl #[.string x0] (by rfl) rfl rfl (by simp only [List.map_toArray, List.map_cons, List.map_nil]; rfl) ?_;with_reducible refine (parent_next (Hi (Below.refl _ w2)) x0 (by omega)).mono ?_
 rintro e w3 ⟨rfl, HB3⟩;refine ⟨_, rfl, ?_⟩;have d1 := pw_cell_below HB3.out c1;have d2 := pw_cell_below HB3.out c2;refine hK.out _ _ ⟨d1, d2⟩ (fun hHeld => ?_);clear hK K;refine norm_ (a' := ?_) ?_ ?_;rotate_left
 ·
  show Act.put _ (some 6) _ = _
  simp only [Act.put, nA, nZ, nS, i64_w, i32_w];rfl
 refine pure_ (i := 4) (N := some 8) (v := ?_) (a' := ?_) (bm 6 31) rfl rfl (by kernel_rfl) (fun _ _ _ h => h) (Or.inl ⟨by rfl, ?_⟩) ?_ ?_;rotate_left;intro w';go_simp;(with_reducible rfl);rotate_left;simp only [Act.put, nA, nZ, nS, i64_w, i32_w];rfl;refine pure_ (i := 5) (N := some 3) (v := ?_) (a' := ?_) (bm 6 63) rfl rfl (by kernel_rfl) (fun _ _ _ h => h) (Or.inl ⟨by rfl, ?_⟩) ?_ ?_;rotate_left;intro w';go_simp;(with_reducible rfl);rotate_left;simp only [Act.put, nA, nZ, nS, i64_w, i32_w];rfl;refine done_ (by kernel_rfl) ?_;go_wp2;go_ret;refine ⟨?_, by rw [HBX.out] at *; exact below_next HB2.out HB3.out⟩;rw [toList_inj];rfl
theorem idx_any (p : It → Bool) (l : List It) : decide (0 ≤ idxP p l) = l.any p := by
 unfold idxP
 by_cases h : l.findIdx p < l.length
 ·
  rw [if_pos h, decide_eq_true (by omega)];obtain ⟨x, hx, hp⟩ := List.findIdx_lt_length.1 h;exact (List.any_eq_true.2 ⟨x, hx, hp⟩).symm
 rw [if_neg h, decide_eq_false (by omega)];refine (List.any_eq_false.2 (fun x hx hp => h (List.findIdx_lt_length.2 ⟨x, hx, hp⟩))).symm
theorem tcontains_any (F bc : Nat) (p : It → Bool) (l : List It) (A : Option Addr) (c : Nat) (W : World) (hl : ItemC W A l) (hp : Asks W F bc p l) :
  Calls Tryz.prog 63 #[.slice A l.length c, .func (.func F) #[] #[.pointer (some ⟨bc, 0, none⟩)]] W fun e w' => e = .returned (.bool (l.any p)) ∧ Below W.heap.size W w' := by
 have HC := Hi (tindex_any F bc p l A c W hl hp);have HI := Hi (idx_any p l);clear hl hp;generalize l.any p = q at *;generalize idxP p l = r at *;go_enter Tryz.func63, Tryz.ntmps63
 go_wp2_with fail
 refine HC.out.mono ?_;rintro e w1 ⟨rfl, hb⟩;have HB := Hi hb;clear hb;go_wp2;go_ret;exact ⟨by rw [← HI.out]; rfl, HB.out⟩
theorem remove_any (W0 W : World) (b : Nat) (vl vs vq : Value) (d : Dk) (m : Nat) (hP : Prog W0 W b vl vs vq d m) (hm : m ≤ 900000) (path : ByteArray) (hp : path.size ≤ 10000) :
  Calls Tryz.prog 26 #[.pointer (some ⟨b, 0, none⟩), .string path] W (OpPost W0 W b vl vs vq (opD nzP d 2 path ⟨#[]⟩ (0, 0, 0, 0, 0, 0, ⟨#[]⟩))) := by
 have HP1 := Hi hP;have HS1 := Hi (Still.refl W (Owns b vl vs vq));have HOW := Hi (owns_lt hP.at_);have HW0 := Hi hP.low.size;have hbb := hP.at_.lt;have HBG := Hi (begin_any W0.heap.size b vl vs vq d _ HP1.out.at_ hP.bnd.fuse hP.bnd.fail)
 by_cases hr : (beginD d).1 = 0
 ·
  have HL0 := Hi (fun h => op_fell (nz := nzP) hr rfl (own_real nzP (beginD d).2 2 path ⟨#[]⟩ (0, 0, 0, 0, 0, 0, ⟨#[]⟩) (by decide) h) h);have HL1 := Hi (fun h h1 => op_fell (nz := nzP) hr rfl (remove_none nzP (beginD d).2 path ⟨#[]⟩ (0, 0, 0, 0, 0, 0, ⟨#[]⟩) h h1) (by decide));have HL2 := Hi (fun h h1 h2 => op_fell (nz := nzP) hr rfl (remove_full nzP (beginD d).2 path ⟨#[]⟩ (0, 0, 0, 0, 0, 0, ⟨#[]⟩) h h1 h2) (by decide));have HL3 := Hi (fun h h1 h2 => op_done (nz := nzP) hr rfl (remove_ok nzP (beginD d).2 path ⟨#[]⟩ (0, 0, 0, 0, 0, 0, ⟨#[]⟩) h h1 h2));generalize opD nzP d 2 path ⟨#[]⟩ (0, 0, 0, 0, 0, 0, ⟨#[]⟩) = X at *;have HPB := Hi (fun W2 h1 h2 => HP1.out.begun (W1 := W2) h1 h2);rw [hr] at HBG;have HSZ := Hi (real_small (s := (beginD d).2.shows) (path := path));clear hr hP HP1;generalize (beginD d).2 = d1 at *;go_enter Tryz.func26, Tryz.ntmps26
  go_wp2_with fail
  refine HBG.out.mono ?_;rintro e w2 ⟨rfl, hd2, hg2⟩;have HP2 := Hi (HPB.out w2 hd2 hg2);have HS2 := Hi (HS1.out.trans (still_own vl vs vq hg2));clear hd2 hg2 HBG HPB HS1;have HR2 := Hi (HP2.out.real hm path hp);generalize realP d1.shows path = R at *;obtain ⟨R0, R1⟩ := R
  go_wp2_with fail
  refine HR2.out.mono ?_;rintro e w3 ⟨rfl, hb3⟩;have HP3 := Hi (HP2.out.below hb3);have HS3 := Hi (HS2.out.trans (Still.below hb3 _));clear hb3;clear HR2;skip;have hb4 := below_one w3 (.cells #[.string R0] 9);have HP5 := Hi (HP3.out.below hb4);have HS5 := Hi (HS3.out.trans (Still.below hb4 (Owns b vl vs vq)));have n5 : (w3.alloc (.cells #[.string R0] 9)).cell? ⟨w3.heap.size, 0, none⟩ = some (.string R0) := by rw [cell_of (heap_new w3 _)]; rfl
  clear hb4
  by_cases her : R1 = 0
  ·
   subst her;have hsz := HSZ.out rfl;replace HL1 := Hi (HL1.out rfl);replace HL2 := Hi (HL2.out rfl);replace HL3 := Hi (HL3.out rfl);skip;have HK := Hi (HP5.out.kind hm R0 (by omega));generalize kindOf d1.shows R0 = KK at *
   go_wp2_with fail
   generalize w3.alloc (.cells #[.string R0] 9) = w5 at *;generalize w3.heap.size = bn at *;refine HK.out.mono ?_;rintro e w6 ⟨rfl, hb6⟩;have n6 := pw_cell_below hb6 n5;have HP6 := Hi (HP5.out.below hb6);have HS6 := Hi (HS5.out.trans (Still.below hb6 _));clear hb6;clear HK
   by_cases hkk : KK = 0
   ·
    subst hkk;have HX := Hi (HL1.out rfl);go_wp2;go_ret;exact ⟨by rw [HX.out]; rfl, vl, vs, vq, by rw [HX.out]; exact HP6.out.at_, HS6.out⟩
   have q0 : (KK == 0) = false := beq_eq_false_iff_ne.2 hkk;replace HL2 := Hi (HL2.out hkk);replace HL3 := Hi (HL3.out hkk);have hsh := HP6.out.shown hm;obtain ⟨As, cs, hcs, hIs⟩ := hsh.cell;have HCN := Hi (tcontains_any 64 bn (fun x => decide (parentT x.1 = R0)) d1.shows As cs w6 hIs ⟨enters_of Tryz.func64 (by kernel_rfl) rfl, fun x0 x1 x2 x3 x4 x5 x6 x7 hx W' hW' => rm1_any x0 x1 x2 x3 x4 x5 x6 x7 R0 bn W' (by have := hsh.paths _ hx; simp only at this; omega) (pw_cell_below hW' n6)⟩);have hIP : isParent d1.shows R0 = d1.shows.any (fun x => decide (parentT x.1 = R0)) := rfl;rw [← hIP] at HCN;clear hIP hsh hIs;generalize isParent d1.shows R0 = FB at *
   go_wp2_with fail
   refine HCN.out.mono ?_;rintro e w7 ⟨rfl, hb7⟩;have n7 := pw_cell_below hb7 n6;have HP7 := Hi (HP6.out.below hb7);have HS7 := Hi (HS6.out.trans (Still.below hb7 _));clear hb7;clear HCN n6 n5
   cases FB with
   | true =>
    have HX := Hi (HL2.out rfl);go_wp2;go_ret;exact ⟨by rw [HX.out]; rfl, vl, vs, vq, by rw [HX.out]; exact HP7.out.at_, HS7.out⟩
   | false =>
    have HX := Hi (HL3.out (by decide));have HW := Hi (HP7.out.wait hm 2 (.inr (.inr (.inl rfl))) R0 ⟨#[]⟩ 0 0 0 0 0 0 ⟨#[]⟩ (by omega) (by decide))
    go_wp2_with fail
    refine HW.out.mono ?_;rintro e w8 hp8;have HF := Hi (OpPost.pre HS7.out hp8);obtain ⟨rfl, _⟩ := hp8;clear HW;go_wp2;go_ret;rw [HX.out];exact HF.out
  have q0 : (R1 == 0) = false := beq_eq_false_iff_ne.2 her;have q1 : (R1 != 0) = true := bne_iff_ne.2 her;have HX := Hi (HL0.out her);go_wp2;go_ret;exact ⟨by rw [HX.out]; rfl, vl, vs, vq, by rw [HX.out]; exact HP5.out.at_, HS5.out⟩
 have q0 : ((beginD d).1 == 0) = false := beq_eq_false_iff_ne.2 hr;have q1 : ((beginD d).1 != 0) = true := bne_iff_ne.2 hr;rw [op_stop hr];clear hr;generalize beginD d = X at *;obtain ⟨r0, d1⟩ := X;skip;go_enter Tryz.func26, Tryz.ntmps26
 go_wp2_with fail
 refine HBG.out.mono ?_;rintro e w2 ⟨rfl, hd2, hg2⟩;have HF := Hi (And.intro hd2 (HS1.out.trans (still_own vl vs vq hg2)));clear hd2 hg2 HBG HS1;go_wp2;go_ret;exact ⟨rfl, vl, vs, vq, HF.out.1, HF.out.2⟩
end Go.Proofs.YtibmfjacfbpfgaaGreatDoor.DRemove
namespace Go.Proofs.YtibmfjacfbpfgaaGreatDoor.DRename
open Go.RowKit YtibmfjacfbpfgaaGreatDoorW PrintWords PrintLast PrintMore NameLaw NameCmp NameWalk NameRef NameKeepLaw NodeRes YtibmfjacfbpfgaaGreatDoor.Item Own TreeLaw TreeNodes SortIns SortSwap FillLaw DiffLaw RealLaw DoneLaw KeepLaw OpLaw OpKeep JoinLaw DAt StepA Step Real DSmall DRows DDone DWait DkLaw OwnLeaf DState
theorem rename_any (W0 W : World) (b : Nat) (vl vs vq : Value) (d : Dk) (m : Nat) (hP : Prog W0 W b vl vs vq d m) (hm : m ≤ 900000) (path : ByteArray) (hp : path.size ≤ 10000) (tp : ByteArray) (hp2 : tp.size ≤ 10000) :
  Calls Tryz.prog 27 #[.pointer (some ⟨b, 0, none⟩), .string path, .string tp] W (OpPost W0 W b vl vs vq (opD nzP d 3 path tp (0, 0, 0, 0, 0, 0, ⟨#[]⟩))) := by
 have HP1 := Hi hP;have HS1 := Hi (Still.refl W (Owns b vl vs vq));have HOW := Hi (owns_lt hP.at_);have HW0 := Hi hP.low.size;have hbb := hP.at_.lt;have HBG := Hi (begin_any W0.heap.size b vl vs vq d _ HP1.out.at_ hP.bnd.fuse hP.bnd.fail)
 by_cases hr : (beginD d).1 = 0
 ·
  have HL0 := Hi (fun h => op_fell (nz := nzP) hr rfl (own_real nzP (beginD d).2 3 path tp (0, 0, 0, 0, 0, 0, ⟨#[]⟩) (by decide) h) h);have HL1 := Hi (fun h h1 => op_fell (nz := nzP) hr rfl (rename_to nzP (beginD d).2 path tp (0, 0, 0, 0, 0, 0, ⟨#[]⟩) h h1) h1);have HL2 := Hi (fun h h1 h2 => op_fell (nz := nzP) hr rfl (rename_none nzP (beginD d).2 path tp (0, 0, 0, 0, 0, 0, ⟨#[]⟩) h h1 h2) (by decide));have HL3 := Hi (fun h h1 h2 h3 => op_fell (nz := nzP) hr rfl (rename_kind nzP (beginD d).2 path tp (0, 0, 0, 0, 0, 0, ⟨#[]⟩) h h1 h2 h3) (by decide));have HL4 := Hi (fun h h1 h2 h3 => op_done (nz := nzP) hr rfl (rename_ok nzP (beginD d).2 path tp (0, 0, 0, 0, 0, 0, ⟨#[]⟩) h h1 h2 h3));generalize opD nzP d 3 path tp (0, 0, 0, 0, 0, 0, ⟨#[]⟩) = X at *;have HPB := Hi (fun W2 h1 h2 => HP1.out.begun (W1 := W2) h1 h2);rw [hr] at HBG;have HSZ := Hi (real_small (s := (beginD d).2.shows) (path := path));clear hr hP HP1;generalize (beginD d).2 = d1 at *;go_enter Tryz.func27, Tryz.ntmps27
  go_wp2_with fail
  refine HBG.out.mono ?_;rintro e w2 ⟨rfl, hd2, hg2⟩;have HP2 := Hi (HPB.out w2 hd2 hg2);have HS2 := Hi (HS1.out.trans (still_own vl vs vq hg2));clear hd2 hg2 HBG HPB HS1;have HSQ := Hi (real_small (s := d1.shows) (path := tp));have HR2 := Hi (HP2.out.real hm path hp);generalize realP d1.shows path = R at *;obtain ⟨R0, R1⟩ := R
  go_wp2_with fail
  refine HR2.out.mono ?_;rintro e w3 ⟨rfl, hb3⟩;have HP3 := Hi (HP2.out.below hb3);have HS3 := Hi (HS2.out.trans (Still.below hb3 _));clear hb3;clear HR2;skip
  by_cases her : R1 = 0
  ·
   subst her;have hsz := HSZ.out rfl;replace HL1 := Hi (HL1.out rfl);replace HL2 := Hi (HL2.out rfl);replace HL3 := Hi (HL3.out rfl);replace HL4 := Hi (HL4.out rfl);have HR3 := Hi (HP3.out.real hm tp hp2);generalize realP d1.shows tp = Q at *;obtain ⟨Q0, Q1⟩ := Q
   go_wp2_with fail
   refine HR3.out.mono ?_;rintro e w4 ⟨rfl, hb4⟩;have HP4 := Hi (HP3.out.below hb4);have HS4 := Hi (HS3.out.trans (Still.below hb4 _));clear hb4;clear HR3;skip
   by_cases heq : Q1 = 0
   ·
    subst heq;have hsq := HSQ.out rfl;replace HL2 := Hi (HL2.out rfl);replace HL3 := Hi (HL3.out rfl);replace HL4 := Hi (HL4.out rfl);skip;generalize hKQ : kindOf d1.shows Q0 = KQ at HL3 HL4;have HKQ := Hi hKQ;clear hKQ;have HK := Hi (HP4.out.kind hm R0 (by omega));generalize hKK : kindOf d1.shows R0 = KK at *;have HKK := Hi hKK;clear hKK
    go_wp2_with fail
    refine HK.out.mono ?_;rintro e w5 ⟨rfl, hb5⟩;have HP5 := Hi (HP4.out.below hb5);have HS5 := Hi (HS4.out.trans (Still.below hb5 _));clear hb5;clear HK
    by_cases hkk : KK = 0
    ·
     subst hkk;have HX := Hi (HL2.out rfl);go_wp2;go_ret;exact ⟨by rw [HX.out]; rfl, vl, vs, vq, by rw [HX.out]; exact HP5.out.at_, HS5.out⟩
    have q0 : (KK == 0) = false := beq_eq_false_iff_ne.2 hkk;replace HL3 := Hi (HL3.out hkk);replace HL4 := Hi (HL4.out hkk);have HK := Hi (HP5.out.kind hm R0 (by omega));rw [HKK.out] at HK
    go_wp2_with fail
    refine HK.out.mono ?_;rintro e w6 ⟨rfl, hb6⟩;have HP6 := Hi (HP5.out.below hb6);have HS6 := Hi (HS5.out.trans (Still.below hb6 _));clear hb6;clear HK
    by_cases hk1 : KK = 1
    ·
     have q1 : (KK == 1) = true := by rw [hk1]; rfl
     have HX := Hi (HL3.out (by omega));go_wp2;go_ret;exact ⟨by rw [HX.out]; rfl, vl, vs, vq, by rw [HX.out]; exact HP6.out.at_, HS6.out⟩
    have q1 : (KK == 1) = false := beq_eq_false_iff_ne.2 hk1;have HK := Hi (HP6.out.kind hm Q0 (by omega));rw [HKQ.out] at HK
    go_wp2_with fail
    refine HK.out.mono ?_;rintro e w7 ⟨rfl, hb7⟩;have HP7 := Hi (HP6.out.below hb7);have HS7 := Hi (HS6.out.trans (Still.below hb7 _));clear hb7;clear HK
    by_cases hq1 : KQ = 1
    ·
     have q2 : (KQ == 1) = true := by rw [hq1]; rfl
     have HX := Hi (HL3.out (by omega));go_wp2;go_ret;exact ⟨by rw [HX.out]; rfl, vl, vs, vq, by rw [HX.out]; exact HP7.out.at_, HS7.out⟩
    have q2 : (KQ == 1) = false := beq_eq_false_iff_ne.2 hq1;have HX := Hi (HL4.out (by omega));have HW := Hi (HP7.out.wait hm 3 (.inr (.inr (.inr (.inl rfl)))) R0 Q0 0 0 0 0 0 0 ⟨#[]⟩ (by omega) (by omega))
    go_wp2_with fail
    refine HW.out.mono ?_;rintro e w8 hp8;have HF := Hi (OpPost.pre HS7.out hp8);obtain ⟨rfl, _⟩ := hp8;clear HW;go_wp2;go_ret;rw [HX.out];exact HF.out
   have q0 : (Q1 == 0) = false := beq_eq_false_iff_ne.2 heq;have q1 : (Q1 != 0) = true := bne_iff_ne.2 heq;have HX := Hi (HL1.out heq);go_wp2;go_ret;exact ⟨by rw [HX.out]; rfl, vl, vs, vq, by rw [HX.out]; exact HP4.out.at_, HS4.out⟩
  have q0 : (R1 == 0) = false := beq_eq_false_iff_ne.2 her;have q1 : (R1 != 0) = true := bne_iff_ne.2 her;have HX := Hi (HL0.out her);go_wp2;go_ret;exact ⟨by rw [HX.out]; rfl, vl, vs, vq, by rw [HX.out]; exact HP3.out.at_, HS3.out⟩
 have q0 : ((beginD d).1 == 0) = false := beq_eq_false_iff_ne.2 hr;have q1 : ((beginD d).1 != 0) = true := bne_iff_ne.2 hr;rw [op_stop hr];clear hr;generalize beginD d = X at *;obtain ⟨r0, d1⟩ := X;skip;go_enter Tryz.func27, Tryz.ntmps27
 go_wp2_with fail
 refine HBG.out.mono ?_;rintro e w2 ⟨rfl, hd2, hg2⟩;have HF := Hi (And.intro hd2 (HS1.out.trans (still_own vl vs vq hg2)));clear hd2 hg2 HBG HS1;go_wp2;go_ret;exact ⟨rfl, vl, vs, vq, HF.out.1, HF.out.2⟩
end Go.Proofs.YtibmfjacfbpfgaaGreatDoor.DRename
namespace Go.Proofs.YtibmfjacfbpfgaaGreatDoor.DMeta
open Go.RowKit YtibmfjacfbpfgaaGreatDoorW PrintWords PrintLast PrintMore NameLaw NameCmp NameWalk NameRef NameKeepLaw NodeRes YtibmfjacfbpfgaaGreatDoor.Item Own TreeLaw TreeNodes SortIns SortSwap FillLaw DiffLaw RealLaw DoneLaw KeepLaw OpLaw OpKeep JoinLaw DAt StepA Step Real DSmall DRows DDone DWait DkLaw OwnLeaf DState
theorem meta_any (W0 W : World) (b : Nat) (vl vs vq : Value) (d : Dk) (m : Nat) (hP : Prog W0 W b vl vs vq d m) (hm : m ≤ 900000) (path : ByteArray) (hp : path.size ≤ 10000) (kd mo ui gi mt at_ : Int) (da : ByteArray) :
  Calls Tryz.prog 28 #[.pointer (some ⟨b, 0, none⟩), .string path, .agg #[.int .i64 kd, .int .u32 mo, .int .u32 ui, .int .u32 gi, .int .i64 mt, .int .i64 at_, .string da]] W (OpPost W0 W b vl vs vq (opD nzP d 4 path ⟨#[]⟩ (kd, mo, ui, gi, mt, at_, da))) := by
 have hmo := and_rights mo;have hb1 := below_one W (.cells #[.int .i64 kd, .int .u32 mo, .int .u32 ui, .int .u32 gi, .int .i64 mt, .int .i64 at_, .string da] 34);have HN1 := Hi (heap_new W (.cells #[.int .i64 kd, .int .u32 mo, .int .u32 ui, .int .u32 gi, .int .i64 mt, .int .i64 at_, .string da] 34));have HP1 := Hi (hP.below hb1);have HS1 := Hi (Still.below hb1 (Owns b vl vs vq));have HOW := Hi (owns_lt hP.at_);have HW0 := Hi hP.low.size;have hbb := hP.at_.lt;clear hb1;have HBG := Hi (begin_any W0.heap.size b vl vs vq d _ HP1.out.at_ hP.bnd.fuse hP.bnd.fail)
 by_cases hr : (beginD d).1 = 0
 ·
  have HL0 := Hi (fun h => op_fell (nz := nzP) hr rfl (own_real nzP (beginD d).2 4 path ⟨#[]⟩ (kd, mo, ui, gi, mt, at_, da) (by decide) h) h);have HL1 := Hi (fun h h1 => op_fell (nz := nzP) hr rfl (meta_none nzP (beginD d).2 path ⟨#[]⟩ (kd, mo, ui, gi, mt, at_, da) h h1) (by decide));have HL2 := Hi (fun h h1 => op_done (nz := nzP) hr rfl (meta_ok nzP (beginD d).2 path ⟨#[]⟩ (kd, mo, ui, gi, mt, at_, da) h h1));generalize opD nzP d 4 path ⟨#[]⟩ (kd, mo, ui, gi, mt, at_, da) = X at *;have HPB := Hi (fun W2 h1 h2 => HP1.out.begun (W1 := W2) h1 h2);rw [hr] at HBG;have HSZ := Hi (real_small (s := (beginD d).2.shows) (path := path));clear hr hP HP1;generalize (beginD d).2 = d1 at *;go_enter Tryz.func28, Tryz.ntmps28
  go_wp2_with fail
  generalize W.alloc (.cells #[.int .i64 kd, .int .u32 mo, .int .u32 ui, .int .u32 gi, .int .i64 mt, .int .i64 at_, .string da] 34) = W1 at *;obtain ⟨bn, hbn⟩ : ∃ bn, bn = W.heap.size := ⟨_, rfl⟩;rw [← hbn] at HN1 ⊢;have hbn2 : W.heap.size ≤ bn := by omega
  clear hbn;refine HBG.out.mono ?_;rintro e w2 ⟨rfl, hd2, hg2⟩;have HP2 := Hi (HPB.out w2 hd2 hg2);have HS2 := Hi (HS1.out.trans (still_own vl vs vq hg2));have HN2 := Hi ((hg2.block bn (Own.lo HN1.out) (fun e => by injection e with e; omega)).trans HN1.out);clear HN1;clear hd2 hg2 HBG HPB HS1;have HR2 := Hi (HP2.out.real hm path hp);generalize realP d1.shows path = R at *;obtain ⟨R0, R1⟩ := R
  go_wp2_with fail
  refine HR2.out.mono ?_;rintro e w3 ⟨rfl, hb3⟩;have HP3 := Hi (HP2.out.below hb3);have HS3 := Hi (HS2.out.trans (Still.below hb3 _));have HN3 := Hi (Own.kp hb3 HN2.out);clear hb3;clear HR2;skip
  by_cases her : R1 = 0
  ·
   subst her;have hsz := HSZ.out rfl;replace HL1 := Hi (HL1.out rfl);replace HL2 := Hi (HL2.out rfl);skip;have HK := Hi (HP3.out.kind hm R0 (by omega));generalize kindOf d1.shows R0 = KK at *
   go_wp2_with fail
   refine HK.out.mono ?_;rintro e w4 ⟨rfl, hb4⟩;have HP4 := Hi (HP3.out.below hb4);have HS4 := Hi (HS3.out.trans (Still.below hb4 _));have HN4 := Hi (Own.kp hb4 HN3.out);clear hb4;clear HK
   by_cases hkk : KK = 0
   ·
    subst hkk;have HX := Hi (HL1.out rfl);go_wp2;go_ret;exact ⟨by rw [HX.out]; rfl, vl, vs, vq, by rw [HX.out]; exact HP4.out.at_, HS4.out⟩
   have q0 : (KK == 0) = false := beq_eq_false_iff_ne.2 hkk;have HX := Hi (HL2.out hkk);have n1 : w4.cell? ⟨bn, 1, none⟩ = some (.int .u32 mo) := by rw [cell_of HN4.out]; rfl
   have z1 : w4.frozen? ⟨bn, 1, none⟩ = false := frozen_of HN4.out 1;have HN5 := Hi (blk_put HN4.out 1 (.int .u32 (masked mo)) rfl);have HP5 := Hi (HP4.out.far (g := bn) (fun k hk => by have := HOW.out k hk; omega) (by have := HW0.out; omega) 1 (.int .u32 (masked mo)));have HS5 := Hi (still_new HS4.out (g := bn) (by omega) 1 (.int .u32 (masked mo)));obtain ⟨g0, g1, g2, g3, g4, g5, g6⟩ := Own.cs7 HN5.out;have HW := Hi (HP5.out.wait hm 4 (.inr (.inr (.inr (.inr rfl)))) R0 ⟨#[]⟩ kd (masked mo) ui gi mt at_ da (by omega) (by decide))
   go_wp2_with fail
   refine HW.out.mono ?_;rintro e w7 hp7;have HF := Hi (OpPost.pre HS5.out hp7);obtain ⟨rfl, _⟩ := hp7;clear HW;go_wp2;go_ret;rw [HX.out];exact HF.out
  have q0 : (R1 == 0) = false := beq_eq_false_iff_ne.2 her;have q1 : (R1 != 0) = true := bne_iff_ne.2 her;have HX := Hi (HL0.out her);go_wp2;go_ret;exact ⟨by rw [HX.out]; rfl, vl, vs, vq, by rw [HX.out]; exact HP3.out.at_, HS3.out⟩
 have q0 : ((beginD d).1 == 0) = false := beq_eq_false_iff_ne.2 hr;have q1 : ((beginD d).1 != 0) = true := bne_iff_ne.2 hr;rw [op_stop hr];clear hr;generalize beginD d = X at *;obtain ⟨r0, d1⟩ := X;skip;go_enter Tryz.func28, Tryz.ntmps28
 go_wp2_with fail
 generalize W.alloc (.cells #[.int .i64 kd, .int .u32 mo, .int .u32 ui, .int .u32 gi, .int .i64 mt, .int .i64 at_, .string da] 34) = W1 at *;refine HBG.out.mono ?_;rintro e w2 ⟨rfl, hd2, hg2⟩;have HF := Hi (And.intro hd2 (HS1.out.trans (still_own vl vs vq hg2)));clear hd2 hg2 HBG HS1;go_wp2;go_ret;exact ⟨rfl, vl, vs, vq, HF.out.1, HF.out.2⟩
end Go.Proofs.YtibmfjacfbpfgaaGreatDoor.DMeta
namespace Go.Proofs.YtibmfjacfbpfgaaGreatDoor.DStat
open Go.RowKit YtibmfjacfbpfgaaGreatDoorW PrintWords PrintLast PrintMore NameLaw NameCmp NameWalk NameRef NameKeepLaw NodeRes YtibmfjacfbpfgaaGreatDoor.Item Own TreeLaw TreeNodes SortIns SortSwap FillLaw DiffLaw RealLaw DoneLaw KeepLaw OpLaw OpKeep JoinLaw DAt StepA Step Real DSmall DRows DDone DWait DkLaw DState NameUse RealKeep
def statP (s : List It) (path : ByteArray) : Nd × Int := if (realP s path).2 ≠ 0 then ((0, 0, 0, 0, 0, 0, ⟨#[]⟩), (realP s path).2) else match findP s (realP s path).1 with | none => ((0, 0, 0, 0, 0, 0, ⟨#[]⟩), 40) | some x => (x.2, 0)
theorem stat_err {s : List It} {path : ByteArray} (h : (realP s path).2 ≠ 0) : statP s path = ((0, 0, 0, 0, 0, 0, ⟨#[]⟩), (realP s path).2) := if_pos h
theorem stat_none {s : List It} {path : ByteArray} (h : (realP s path).2 = 0) (h1 : findP s (realP s path).1 = none) : statP s path = ((0, 0, 0, 0, 0, 0, ⟨#[]⟩), 40) := by
 unfold statP;rw [if_neg (fun e : ¬ _ => e h), h1]
theorem stat_some {s : List It} {path : ByteArray} (h : (realP s path).2 = 0) {x : It} (h1 : findP s (realP s path).1 = some x) : statP s path = (x.2, 0) := by
 unfold statP;rw [if_neg (fun e : ¬ _ => e h), h1]
def aggNd (n : Nd) : Value := .agg #[.int .i64 n.1, .int .u32 n.2.1, .int .u32 n.2.2.1, .int .u32 n.2.2.2.1, .int .i64 n.2.2.2.2.1, .int .i64 n.2.2.2.2.2.1, .string n.2.2.2.2.2.2]
theorem stat_any (W0 W : World) (b : Nat) (vl vs vq : Value) (d : Dk) (m : Nat) (hP : Prog W0 W b vl vs vq d m) (hm : m ≤ 900000) (path : ByteArray) (hp : path.size ≤ 10000) :
  Calls Tryz.prog 31 #[.pointer (some ⟨b, 0, none⟩), .string path] W fun e w' => e = .returned (.tuple #[aggNd (statP d.shows path).1, .int .i64 (statP d.shows path).2]) ∧ Below W.heap.size W w' := by
 have hb1 := below_one W (.cells #[.int .i64 0, .int .u32 0, .int .u32 0, .int .u32 0, .int .i64 0, .int .i64 0, .string ⟨#[]⟩] 34);have HB1 := Hi hb1;have HN1 := Hi (heap_new W (.cells #[.int .i64 0, .int .u32 0, .int .u32 0, .int .u32 0, .int .i64 0, .int .i64 0, .string ⟨#[]⟩] 34));have HP1 := Hi (hP.below hb1);have HL0 := Hi (stat_err (s := d.shows) (path := path));have HL1 := Hi (stat_none (s := d.shows) (path := path));have HL2 := Hi (fun h x h1 => stat_some (s := d.shows) (path := path) h (x := x) h1);have HSZ := Hi (real_small (s := d.shows) (path := path));have HR := Hi (HP1.out.real hm path hp);clear hb1 hP;generalize statP d.shows path = X at *;generalize realP d.shows path = R at *;obtain ⟨R0, R1⟩ := R;go_enter Tryz.func31, Tryz.ntmps31
 go_wp2_with fail
 generalize W.alloc (.cells #[.int .i64 0, .int .u32 0, .int .u32 0, .int .u32 0, .int .i64 0, .int .i64 0, .string ⟨#[]⟩] 34) = w1 at *;refine HR.out.mono ?_;rintro e w2 ⟨rfl, hb2⟩;have HB := Hi (below_next HB1.out hb2);have HN := Hi (Own.kp hb2 HN1.out);have HP2 := Hi (HP1.out.below hb2);clear hb2 HR HN1 HB1 HP1;generalize hbn : W.heap.size = bn at *
 by_cases her : R1 = 0
 ·
  subst her;have hsz := HSZ.out rfl;replace HL1 := Hi (HL1.out rfl);replace HL2 := Hi (HL2.out rfl);have hS := HP2.out.shown hm;obtain ⟨A, c, hcs, hI⟩ := hS.cell;have HAT := Hi (at_any d.shows A c R0 w2 hS.glob hI hS.len hS.short (by omega));have hhf := here_find hS.ord R0;rw [hhf] at HL1 HL2;have HI := Hi hI;clear hS hI hhf HSZ HL0
  by_cases hh : hereP d.shows R0 = true
  ·
   have hr := (here_iff.1 hh).1;rw [dif_pos hh] at HL2;obtain ⟨r, hr, hpl, hxx⟩ : ∃ (r : Nat) (h : r < d.shows.length), placeP d.shows R0 = r ∧ X = (d.shows[r].2, 0) := ⟨_, hr, rfl, HL2.out _ rfl⟩;rw [hh, hpl] at HAT;have HX := Hi hxx;clear HL1 HL2 hh hpl hxx;have hrI : (r : Int) < (d.shows.length : Int) := by omega
   go_wp2_with fail
   refine HAT.out.mono ?_;rintro e w3 ⟨rfl, hb3⟩;have HB := Hi (HB.out.trans (hb3.mono (by have := HB.out.size; omega)));have HN := Hi (Own.kp hb3 HN.out);obtain ⟨ad, rfl, _, e1, e2, e3, e4, e5, e6, e7⟩ := item_at (Kd.C_below HI.out hb3) hr;have k1 := pw_cell_below hb3 hcs;clear hb3 hcs HAT;generalize d.shows[r] = x at *;obtain ⟨pa, kd, mo, ui, gi, mt, at_, da⟩ := x;simp only at e1 e2 e3 e4 e5 e6 e7;have c0 : w3.cell? ⟨bn, 0, none⟩ = some (.int .i64 0) := by rw [cell_of HN.out]; rfl
   have z0 := frozen_of HN.out 0;have c1 : w3.cell? ⟨bn, 1, none⟩ = some (.int .u32 0) := by rw [cell_of HN.out]; rfl
   have z1 := frozen_of HN.out 1;have c2 : w3.cell? ⟨bn, 2, none⟩ = some (.int .u32 0) := by rw [cell_of HN.out]; rfl
   have z2 := frozen_of HN.out 2;have c3 : w3.cell? ⟨bn, 3, none⟩ = some (.int .u32 0) := by rw [cell_of HN.out]; rfl
   have z3 := frozen_of HN.out 3;have c4 : w3.cell? ⟨bn, 4, none⟩ = some (.int .i64 0) := by rw [cell_of HN.out]; rfl
   have z4 := frozen_of HN.out 4;have c5 : w3.cell? ⟨bn, 5, none⟩ = some (.int .i64 0) := by rw [cell_of HN.out]; rfl
   have z5 := frozen_of HN.out 5;have c6 : w3.cell? ⟨bn, 6, none⟩ = some (.string ⟨#[]⟩) := by rw [cell_of HN.out]; rfl
   have z6 := frozen_of HN.out 6;go_wp2;refine bodyPost_ret (results_row_tmp (ty := 34) rfl _ _ bn _ _ _ _ rfl (node_put HN.out _ _ _ _ _ _ _) Tryz.underlying34 rfl sizeNode) rfl ?_;subst hbn;refine ⟨by rw [HX.out]; rfl, ?_⟩;exact node_below HB.out (Nat.le_refl _) (Nat.le_refl _) _ _ _ _ _ _ _
  rw [dif_neg hh] at HL1;have HX := Hi (HL1.out rfl);have hh2 : hereP d.shows R0 = false := by simpa using hh
  rw [hh2] at HAT;clear HL1 HL2 hh hh2;generalize placeP d.shows R0 = r at *
  go_wp2_with fail
  refine HAT.out.mono ?_;rintro e w3 ⟨rfl, hb3⟩;have HB := Hi (HB.out.trans (hb3.mono (by have := HB.out.size; omega)));have HN := Hi (Own.kp hb3 HN.out);clear hb3 hcs HAT;have c0 : w3.cell? ⟨bn, 0, none⟩ = some (.int .i64 0) := by rw [cell_of HN.out]; rfl
  have z0 := frozen_of HN.out 0;have c1 : w3.cell? ⟨bn, 1, none⟩ = some (.int .u32 0) := by rw [cell_of HN.out]; rfl
  have z1 := frozen_of HN.out 1;have c2 : w3.cell? ⟨bn, 2, none⟩ = some (.int .u32 0) := by rw [cell_of HN.out]; rfl
  have z2 := frozen_of HN.out 2;have c3 : w3.cell? ⟨bn, 3, none⟩ = some (.int .u32 0) := by rw [cell_of HN.out]; rfl
  have z3 := frozen_of HN.out 3;have c4 : w3.cell? ⟨bn, 4, none⟩ = some (.int .i64 0) := by rw [cell_of HN.out]; rfl
  have z4 := frozen_of HN.out 4;have c5 : w3.cell? ⟨bn, 5, none⟩ = some (.int .i64 0) := by rw [cell_of HN.out]; rfl
  have z5 := frozen_of HN.out 5;have c6 : w3.cell? ⟨bn, 6, none⟩ = some (.string ⟨#[]⟩) := by rw [cell_of HN.out]; rfl
  have z6 := frozen_of HN.out 6;go_wp2;refine bodyPost_ret (results_row_tmp (ty := 34) rfl _ _ bn _ _ _ _ rfl (node_put HN.out _ _ _ _ _ _ _) Tryz.underlying34 rfl sizeNode) rfl ?_;subst hbn;refine ⟨by rw [HX.out]; rfl, ?_⟩;exact node_below HB.out (Nat.le_refl _) (Nat.le_refl _) _ _ _ _ _ _ _
 have q0 : (R1 == 0) = false := beq_eq_false_iff_ne.2 her;have q1 : (R1 != 0) = true := bne_iff_ne.2 her;have HX := Hi (HL0.out her);clear HL1 HL2 HL0 HSZ;have c0 : w2.cell? ⟨bn, 0, none⟩ = some (.int .i64 0) := by rw [cell_of HN.out]; rfl
 have z0 := frozen_of HN.out 0;have c1 : w2.cell? ⟨bn, 1, none⟩ = some (.int .u32 0) := by rw [cell_of HN.out]; rfl
 have z1 := frozen_of HN.out 1;have c2 : w2.cell? ⟨bn, 2, none⟩ = some (.int .u32 0) := by rw [cell_of HN.out]; rfl
 have z2 := frozen_of HN.out 2;have c3 : w2.cell? ⟨bn, 3, none⟩ = some (.int .u32 0) := by rw [cell_of HN.out]; rfl
 have z3 := frozen_of HN.out 3;have c4 : w2.cell? ⟨bn, 4, none⟩ = some (.int .i64 0) := by rw [cell_of HN.out]; rfl
 have z4 := frozen_of HN.out 4;have c5 : w2.cell? ⟨bn, 5, none⟩ = some (.int .i64 0) := by rw [cell_of HN.out]; rfl
 have z5 := frozen_of HN.out 5;have c6 : w2.cell? ⟨bn, 6, none⟩ = some (.string ⟨#[]⟩) := by rw [cell_of HN.out]; rfl
 have z6 := frozen_of HN.out 6;go_wp2;refine bodyPost_ret (results_row_tmp (ty := 34) rfl _ _ bn _ _ _ _ rfl (node_put HN.out _ _ _ _ _ _ _) Tryz.underlying34 rfl sizeNode) rfl ?_;subst hbn;refine ⟨by rw [HX.out]; rfl, ?_⟩;exact node_below HB.out (Nat.le_refl _) (Nat.le_refl _) _ _ _ _ _ _ _
end Go.Proofs.YtibmfjacfbpfgaaGreatDoor.DStat
namespace Go.Proofs.YtibmfjacfbpfgaaGreatDoor.DList
open Go.RowKit YtibmfjacfbpfgaaGreatDoorW PrintWords PrintLast PrintMore NameLaw NameCmp NameWalk NameRef NameKeepLaw NodeRes YtibmfjacfbpfgaaGreatDoor.Item Own TreeLaw TreeNodes SortIns SortSwap FillLaw DiffLaw RealLaw DoneLaw KeepLaw OpLaw OpKeep JoinLaw DAt StepA Step Real DSmall DRows DDone DWait DkLaw DState NameUse RealKeep
def lsP (r : ByteArray) (l : List It) : List ByteArray := (l.filter (fun x => decide (parentT x.1 = r))).map (fun x => baseT x.1)
theorem lsP_step (r : ByteArray) {l : List It} {k : Nat} (hk : k < l.length) : lsP r (l.take (k + 1)) = lsP r (l.take k) ++ (if parentT l[k].1 = r then [baseT l[k].1] else []) := by
 unfold lsP;rw [List.take_succ_eq_append_getElem hk, List.filter_append, List.map_append, List.filter_cons]
 by_cases h : parentT l[k].1 = r
 ·
  rw [if_pos (by simpa using h), if_pos h]; rfl
 rw [if_neg (by simpa using h), if_neg h]; rfl
def whereP (s : List It) (path : ByteArray) : ByteArray × Int := if path.data.toList = [] then (⟨#[]⟩, 0) else realP s path
def listP (s : List It) (path : ByteArray) : List ByteArray × Int := if (whereP s path).2 ≠ 0 then ([], (whereP s path).2) else if kindOf s (whereP s path).1 = 0 then ([], 40) else if kindOf s (whereP s path).1 ≠ 1 then ([], 42) else (lsP (whereP s path).1 s, 0)
theorem list_err {s : List It} {path : ByteArray} (h : (whereP s path).2 ≠ 0) : listP s path = ([], (whereP s path).2) := if_pos h
theorem list_none {s : List It} {path : ByteArray} (h : (whereP s path).2 = 0) (h1 : kindOf s (whereP s path).1 = 0) : listP s path = ([], 40) := (if_neg (fun e : ¬ _ => e h)).trans (if_pos h1)
theorem list_kind {s : List It} {path : ByteArray} (h : (whereP s path).2 = 0) (h1 : ¬ kindOf s (whereP s path).1 = 0) (h2 : kindOf s (whereP s path).1 ≠ 1) : listP s path = ([], 42) := (if_neg (fun e : ¬ _ => e h)).trans ((if_neg h1).trans (if_pos h2))
theorem list_ok {s : List It} {path : ByteArray} (h : (whereP s path).2 = 0) (h2 : kindOf s (whereP s path).1 = 1) : listP s path = (lsP (whereP s path).1 s, 0) := (if_neg (fun e : ¬ _ => e h)).trans ((if_neg (by rw [h2]; decide)).trans (if_neg (fun e => e h2)))
theorem real_le {s : List It} {path : ByteArray} : (realP s path).1.size ≤ 70000 := by
 have h0 : (⟨#[]⟩ : ByteArray).size ≤ 70000 := by decide
 unfold realP
 split
 ·
  exact h0
 simp only
 split
 ·
  exact h0
 split
 ·
  exact h0
 rename_i h;exact Nat.le_trans (check_size (Classical.not_not.1 h)) (by decide)
theorem where_le {s : List It} {path : ByteArray} : (whereP s path).1.size ≤ 70000 := by
 unfold whereP
 split
 ·
  decide
 exact real_le
theorem list_some (W0 W : World) (b : Nat) (vl vs vq : Value) (d : Dk) (m : Nat) (hP : Prog W0 W b vl vs vq d m) (hm : m ≤ 900000) (path : ByteArray) (hp : path.size ≤ 10000) (h0 : path.toList ≠ []) :
  Calls Tryz.prog 33 #[.pointer (some ⟨b, 0, none⟩), .string path] W fun e w' => ∃ v1, e = .returned (.tuple #[v1, .int .i64 (listP d.shows path).2]) ∧ Kd.string.R 9 w' W.heap.size (fun _ => True) v1 (listP d.shows path).1 ∧ Below W.heap.size W w' := by
 have HL0 := Hi (list_err (s := d.shows) (path := path));have HL1 := Hi (list_none (s := d.shows) (path := path));have HL2 := Hi (list_kind (s := d.shows) (path := path));have HL3 := Hi (list_ok (s := d.shows) (path := path));have HSZ := Hi (where_le (s := d.shows) (path := path));generalize listP d.shows path = X at *;have hd : path.toList.isEmpty = false := by simp [h0]
 have hd2 : (path.toList == []) = false := by simpa using h0
 have hw : whereP d.shows path = realP d.shows path := if_neg (by rw [← Lib.toList_data]; exact h0);have HR := Hi (hP.real hm path hp);rw [← hw] at HR;have HP1 := Hi hP;clear hP hw;generalize whereP d.shows path = R at *;obtain ⟨r, er⟩ := R;skip;go_enter Tryz.func33, Tryz.ntmps33
 go_wp2_with fail
 refine HR.out.mono ?_;rintro e w2 ⟨rfl, hb2⟩;have HP2 := Hi (HP1.out.below hb2);have HB2 := Hi hb2;clear hb2 HR HP1;have hsz := HSZ.out
 by_cases her : er = 0
 ·
  subst her;replace HL1 := Hi (HL1.out rfl);replace HL2 := Hi (HL2.out rfl);replace HL3 := Hi (HL3.out rfl);have HK := Hi (HP2.out.kind hm r (by omega));generalize kindOf d.shows r = KK at *
  go_wp2_with fail
  refine HK.out.mono ?_;rintro e w3 ⟨rfl, hb3⟩;have HP3 := Hi (HP2.out.below hb3);have HB3 := Hi (below_next HB2.out hb3);clear hb3 HK HL0 HSZ
  by_cases hkk : KK = 0
  ·
   subst hkk;have HX := Hi (HL1.out rfl);go_wp2;go_ret2;exact ⟨.slice none 0 0, by rw [HX.out]; rfl, by rw [HX.out]; exact Kd.R_nil _ _ _ _ _, HB3.out⟩
  have q0 : (KK == 0) = false := beq_eq_false_iff_ne.2 hkk
  by_cases hk1 : KK = 1
  ·
   subst hk1;have HX := Hi (HL3.out rfl);clear HL1 HL2 HL3;obtain ⟨As, cs, hcs, hIs⟩ := (HP3.out.shown hm).cell;have HSP := Hi (HP3.out.shown hm).paths;have HIs := Hi hIs;have hlen := (HP3.out.shown hm).len;clear hIs HP3;have HL0 : Hid (lsP r (d.shows.take 0) = []) := Hi rfl;generalize d.shows = s at *;go_wp2
   go_loopw [9, 40] (fun v i wr => ∃ k : Nat, k ≤ s.length ∧ i = .int .i64 k ∧ Hid (Kd.string.R 9 wr w3.heap.size (fun _ => True) v (lsP r (s.take k))) ∧ Hid (Below w3.heap.size w3 wr)) (fun v i _ => s.length - (intOf i).toNat)
   case atStart => exact ⟨0, Nat.zero_le _, rfl, by rw [HL0.out]; exact Hi (Kd.R_nil _ _ _ _ _), Hi (Below.refl _ _)⟩
   obtain ⟨k, hk, rfl, HV, HT⟩ := hrel;obtain ⟨A, c, hv⟩ := Kd.R_slice HV.out;subst hv
   by_cases hlt : k < s.length
   ·
    obtain ⟨ad, rfl, e0, e1, e2, e3, e4, e5, e6, e7⟩ := item_at (Kd.C_below HIs.out HT.out) hlt;have hltI : (k : Int) < s.length := by omega
    have HSTP := Hi (lsP_step r hlt);have hsz := HSP.out _ (List.getElem_mem hlt);generalize s[k] = x at *;obtain ⟨x0, x1, x2, x3, x4, x5, x6, x7⟩ := x;simp only at e0 e1 e2 e3 e4 e5 e6 e7 hsz;obtain ⟨L, hL⟩ : ∃ L, L = lsP r (s.take k) := ⟨_, rfl⟩;rw [← hL] at HV HSTP ⊢;have hLl : L.length ≤ k := by rw [hL]; unfold lsP; rw [List.length_map]; exact Nat.le_trans (List.length_filter_le _ _) (by rw [List.length_take]; omega)
    clear hL;have hb5 := below_one wr (.cells #[.string x0, .int .i64 x1, .int .u32 x2, .int .u32 x3, .int .u32 x4, .int .i64 x5, .int .i64 x6, .string x7] 77);have c0 : (wr.alloc (.cells #[.string x0, .int .i64 x1, .int .u32 x2, .int .u32 x3, .int .u32 x4, .int .i64 x5, .int .i64 x6, .string x7] 77)).cell? ⟨wr.heap.size, 0, none⟩ = some (.string x0) := by rw [cell_of (heap_new wr _)]; rfl
    have HV5 := Hi (Kd.R_below HV.out hb5);have HT5 := Hi (below_next HT.out hb5);clear hb5 HV HT
    go_wp2_with fail
    generalize wr.alloc (.cells #[.string x0, .int .i64 x1, .int .u32 x2, .int .u32 x3, .int .u32 x4, .int .i64 x5, .int .i64 x6, .string x7] 77) = w5 at *;generalize wr.heap.size = bx at *;refine (parent_next (Hi (Below.refl _ w5)) x0 (by omega)).mono ?_;rintro e w6 ⟨rfl, HB6⟩;have c6 := pw_cell_below HB6.out c0;have HV6 := Hi (Kd.R_below HV5.out HB6.out);have HTW := Hi (below_next HT5.out HB6.out);clear c0 HB6 HV5 HT5 e0 e1 e2 e3 e4 e5 e6 e7
    by_cases hpa : parentT x0 = r
    ·
     have qp : ((parentT x0).toList == r.toList) = true := by rw [hpa]; simp
     have HSQ : Hid (lsP r (s.take (k + 1)) = L ++ [baseT x0]) := Hi (by rw [HSTP.out]; exact congrArg (L ++ ·) (if_pos hpa));clear HSTP hpa
     go_wp2_with fail
     refine (base_next (Hi (Below.refl _ w6)) x0 (by omega)).mono ?_;rintro e w7 ⟨rfl, HB7⟩;have HV7 := Hi (Kd.R_below HV6.out HB7.out);have HT8 := Hi (below_next HTW.out HB7.out);clear HB7 HV6 HTW c6;generalize baseT x0 = bb at *
     go_wp2_with ((with_reducible refine gate_builtin (b := .append) (xs := #[.tmp 49, .tmp 53]) rfl ?_); at_builtin; refine Kd.R_append Kd.string (w0 := w3) w3.heap.size rfl (.tmp 49) (.tmp 53) 61 9 (.string ByteArray.empty) 16 rfl Tryz.underlying61 infoStr rfl (by decide) (by decide) (.slice A L.length c) L bb [.string bb] (fun _ => True) (fun _ => False) rfl (by first | rfl | (simp; done) | (simp; rfl)) ?aP (fun _ hk => hk.elim) ?aF ?aO ?aB ?aS ?aL ?_; skip)
     case aP => exact rfl
     case aB => exact HT8.out
     case aF => exact (fun _ _ => trivial)
     case aO => exact HV7.out
     case aS => exact HT8.out.size
     case aL => first | omega | (simp; done) | (simp; omega)
     intro v9 w9 ho hb5 hg5 hat5;have HV9 := Hi ho;have HT9 := Hi hb5;clear ho hb5 hg5 hat5;rw [← HSQ.out] at HV9;go_wp2;go_roundw
     case rel => exact ⟨k + 1, by omega, by go_num, HV9, HT9⟩
     case measure => simp [intOf]; omega
    have qp : ((parentT x0).toList == r.toList) = false := by rw [toList_inj]; exact decide_eq_false hpa
    have HSQ : Hid (lsP r (s.take (k + 1)) = L) := Hi (by rw [HSTP.out]; exact (congrArg (L ++ ·) (if_neg hpa)).trans (List.append_nil L));clear HSTP hpa c6;have HV8 : Hid (Kd.string.R 9 w6 w3.heap.size (fun _ => True) (.slice A L.length c) (lsP r (s.take (k + 1)))) := by rw [HSQ.out]; exact HV6
    clear HV6 HSQ;go_wp2;go_roundw
    case rel => exact ⟨k + 1, by omega, by go_num, HV8, HTW⟩
    case measure => simp [intOf]; omega
   have hj2 : ¬ (k : Int) < (s.length : Int) := by omega
   have hks : s.take k = s := List.take_of_length_le (by omega);rw [hks] at HV ⊢;go_wp2;go_ret2;exact ⟨_, by rw [HX.out]; rfl, by rw [HX.out]; exact Kd.R_lower HV.out HB3.out.size, below_next HB3.out HT.out⟩
  have q1 : (KK == 1) = false := beq_eq_false_iff_ne.2 hk1;have q2 : (KK != 1) = true := bne_iff_ne.2 hk1;have HX := Hi (HL2.out hkk hk1);go_wp2;go_ret2;exact ⟨.slice none 0 0, by rw [HX.out]; rfl, by rw [HX.out]; exact Kd.R_nil _ _ _ _ _, HB3.out⟩
 have q0 : (er == 0) = false := beq_eq_false_iff_ne.2 her;have q1 : (er != 0) = true := bne_iff_ne.2 her;have HX := Hi (HL0.out her);have HK := Hi (HP2.out.kind hm r (by omega))
 go_wp2_with fail
 refine HK.out.mono ?_;rintro e w3 ⟨rfl, hb3⟩;have HB3 := Hi (below_next HB2.out hb3);clear hb3 HK;go_wp2;go_ret2;exact ⟨.slice none 0 0, by rw [HX.out]; rfl, by rw [HX.out]; exact Kd.R_nil _ _ _ _ _, HB3.out⟩
theorem list_top (W0 W : World) (b : Nat) (vl vs vq : Value) (d : Dk) (m : Nat) (hP : Prog W0 W b vl vs vq d m) (hm : m ≤ 900000) (path : ByteArray) (hp : path.size ≤ 10000) (h0 : path.toList = []) :
  Calls Tryz.prog 33 #[.pointer (some ⟨b, 0, none⟩), .string path] W fun e w' => ∃ v1, e = .returned (.tuple #[v1, .int .i64 (listP d.shows path).2]) ∧ Kd.string.R 9 w' W.heap.size (fun _ => True) v1 (listP d.shows path).1 ∧ Below W.heap.size W w' := by
 have HL0 := Hi (list_err (s := d.shows) (path := path));have HL1 := Hi (list_none (s := d.shows) (path := path));have HL2 := Hi (list_kind (s := d.shows) (path := path));have HL3 := Hi (list_ok (s := d.shows) (path := path));have HSZ := Hi (where_le (s := d.shows) (path := path));generalize listP d.shows path = X at *;have hd : path.toList.isEmpty = true := by rw [h0]; rfl
 have hd2 : (path.toList == []) = true := by rw [h0]; rfl
 have hw : whereP d.shows path = (⟨#[]⟩, 0) := if_pos (by rw [← Lib.toList_data]; exact h0);rw [hw] at HL0 HL1 HL2 HL3 HSZ;have HP2 := Hi hP;have HB2 := Hi (Below.refl W.heap.size W);have HKT := Hi (kind_nil d.shows ⟨#[]⟩ rfl);have HX := Hi (HL3.out rfl HKT.out);have HK := Hi (hP.kind hm ⟨#[]⟩ (by decide));rw [HKT.out] at HK;clear hP hw h0 HL0 HL1 HL2 HL3 HSZ;go_enter Tryz.func33, Tryz.ntmps33
 go_wp2_with fail
 refine HK.out.mono ?_;rintro e w3 ⟨rfl, hb3⟩;have HP3 := Hi (HP2.out.below hb3);have HB3 := Hi (below_next HB2.out hb3);clear hb3 HK HKT;skip;obtain ⟨As, cs, hcs, hIs⟩ := (HP3.out.shown hm).cell;have HSP := Hi (HP3.out.shown hm).paths;have HIs := Hi hIs;have hlen := (HP3.out.shown hm).len;clear hIs HP3;have HL0 : Hid (lsP ⟨#[]⟩ (d.shows.take 0) = []) := Hi rfl;generalize d.shows = s at *;go_wp2
 go_loopw [9, 40] (fun v i wr => ∃ k : Nat, k ≤ s.length ∧ i = .int .i64 k ∧ Hid (Kd.string.R 9 wr w3.heap.size (fun _ => True) v (lsP ⟨#[]⟩ (s.take k))) ∧ Hid (Below w3.heap.size w3 wr)) (fun v i _ => s.length - (intOf i).toNat)
 case atStart => exact ⟨0, Nat.zero_le _, rfl, by rw [HL0.out]; exact Hi (Kd.R_nil _ _ _ _ _), Hi (Below.refl _ _)⟩
 obtain ⟨k, hk, rfl, HV, HT⟩ := hrel;obtain ⟨A, c, hv⟩ := Kd.R_slice HV.out;subst hv
 by_cases hlt : k < s.length
 ·
  obtain ⟨ad, rfl, e0, e1, e2, e3, e4, e5, e6, e7⟩ := item_at (Kd.C_below HIs.out HT.out) hlt;have hltI : (k : Int) < s.length := by omega
  have HSTP := Hi (lsP_step ⟨#[]⟩ hlt);have hsz := HSP.out _ (List.getElem_mem hlt);generalize s[k] = x at *;obtain ⟨x0, x1, x2, x3, x4, x5, x6, x7⟩ := x;simp only at e0 e1 e2 e3 e4 e5 e6 e7 hsz;obtain ⟨L, hL⟩ : ∃ L, L = lsP ⟨#[]⟩ (s.take k) := ⟨_, rfl⟩;rw [← hL] at HV HSTP ⊢;have hLl : L.length ≤ k := by rw [hL]; unfold lsP; rw [List.length_map]; exact Nat.le_trans (List.length_filter_le _ _) (by rw [List.length_take]; omega)
  clear hL;have hb5 := below_one wr (.cells #[.string x0, .int .i64 x1, .int .u32 x2, .int .u32 x3, .int .u32 x4, .int .i64 x5, .int .i64 x6, .string x7] 77);have c0 : (wr.alloc (.cells #[.string x0, .int .i64 x1, .int .u32 x2, .int .u32 x3, .int .u32 x4, .int .i64 x5, .int .i64 x6, .string x7] 77)).cell? ⟨wr.heap.size, 0, none⟩ = some (.string x0) := by rw [cell_of (heap_new wr _)]; rfl
  have HV5 := Hi (Kd.R_below HV.out hb5);have HT5 := Hi (below_next HT.out hb5);clear hb5 HV HT
  go_wp2_with fail
  generalize wr.alloc (.cells #[.string x0, .int .i64 x1, .int .u32 x2, .int .u32 x3, .int .u32 x4, .int .i64 x5, .int .i64 x6, .string x7] 77) = w5 at *;generalize wr.heap.size = bx at *;refine (parent_next (Hi (Below.refl _ w5)) x0 (by omega)).mono ?_;rintro e w6 ⟨rfl, HB6⟩;have c6 := pw_cell_below HB6.out c0;have HV6 := Hi (Kd.R_below HV5.out HB6.out);have HTW := Hi (below_next HT5.out HB6.out);clear c0 HB6 HV5 HT5 e0 e1 e2 e3 e4 e5 e6 e7
  by_cases hpa : parentT x0 = ⟨#[]⟩
  ·
   have qp1 : (parentT x0).toList.isEmpty = true := by rw [hpa, Lib.toList_data]; rfl
   have qp2 : ((parentT x0).toList == []) = true := by rw [hpa, Lib.toList_data]; rfl
   have HSQ : Hid (lsP ⟨#[]⟩ (s.take (k + 1)) = L ++ [baseT x0]) := Hi (by rw [HSTP.out]; exact congrArg (L ++ ·) (if_pos hpa));clear HSTP hpa
   go_wp2_with fail
   refine (base_next (Hi (Below.refl _ w6)) x0 (by omega)).mono ?_;rintro e w7 ⟨rfl, HB7⟩;have HV7 := Hi (Kd.R_below HV6.out HB7.out);have HT8 := Hi (below_next HTW.out HB7.out);clear HB7 HV6 HTW c6;generalize baseT x0 = bb at *
   go_wp2_with ((with_reducible refine gate_builtin (b := .append) (xs := #[.tmp 49, .tmp 53]) rfl ?_); at_builtin; refine Kd.R_append Kd.string (w0 := w3) w3.heap.size rfl (.tmp 49) (.tmp 53) 61 9 (.string ByteArray.empty) 16 rfl Tryz.underlying61 infoStr rfl (by decide) (by decide) (.slice A L.length c) L bb [.string bb] (fun _ => True) (fun _ => False) rfl (by first | rfl | (simp; done) | (simp; rfl)) ?aP (fun _ hk => hk.elim) ?aF ?aO ?aB ?aS ?aL ?_; skip)
   case aP => exact rfl
   case aB => exact HT8.out
   case aF => exact (fun _ _ => trivial)
   case aO => exact HV7.out
   case aS => exact HT8.out.size
   case aL => first | omega | (simp; done) | (simp; omega)
   intro v9 w9 ho hb5 hg5 hat5;have HV9 := Hi ho;have HT9 := Hi hb5;clear ho hb5 hg5 hat5;rw [← HSQ.out] at HV9;go_wp2;go_roundw
   case rel => exact ⟨k + 1, by omega, by go_num, HV9, HT9⟩
   case measure => simp [intOf]; omega
  have qp0 : (parentT x0).toList ≠ [] := fun e => by
   have h := toList_inj (parentT x0) ⟨#[]⟩;rw [decide_eq_false hpa, e, Lib.toList_data] at h;cases h
  have qp1 : (parentT x0).toList.isEmpty = false := by simp [qp0]
  have qp2 : ((parentT x0).toList == []) = false := by simpa using qp0
  have HSQ : Hid (lsP ⟨#[]⟩ (s.take (k + 1)) = L) := Hi (by rw [HSTP.out]; exact (congrArg (L ++ ·) (if_neg hpa)).trans (List.append_nil L));clear HSTP hpa c6;have HV8 : Hid (Kd.string.R 9 w6 w3.heap.size (fun _ => True) (.slice A L.length c) (lsP ⟨#[]⟩ (s.take (k + 1)))) := by rw [HSQ.out]; exact HV6
  clear HV6 HSQ;go_wp2;go_roundw
  case rel => exact ⟨k + 1, by omega, by go_num, HV8, HTW⟩
  case measure => simp [intOf]; omega
 have hj2 : ¬ (k : Int) < (s.length : Int) := by omega
 have hks : s.take k = s := List.take_of_length_le (by omega);rw [hks] at HV ⊢;go_wp2;go_ret2;exact ⟨_, by rw [HX.out]; rfl, by rw [HX.out]; exact Kd.R_lower HV.out HB3.out.size, below_next HB3.out HT.out⟩
theorem list_any (W0 W : World) (b : Nat) (vl vs vq : Value) (d : Dk) (m : Nat) (hP : Prog W0 W b vl vs vq d m) (hm : m ≤ 900000) (path : ByteArray) (hp : path.size ≤ 10000) :
  Calls Tryz.prog 33 #[.pointer (some ⟨b, 0, none⟩), .string path] W fun e w' => ∃ v1, e = .returned (.tuple #[v1, .int .i64 (listP d.shows path).2]) ∧ Kd.string.R 9 w' W.heap.size (fun _ => True) v1 (listP d.shows path).1 ∧ Below W.heap.size W w' := by
 by_cases h0 : path.toList = []
 ·
  exact list_top W0 W b vl vs vq d m hP hm path hp h0
 exact list_some W0 W b vl vs vq d m hP hm path hp h0
end Go.Proofs.YtibmfjacfbpfgaaGreatDoor.DList
