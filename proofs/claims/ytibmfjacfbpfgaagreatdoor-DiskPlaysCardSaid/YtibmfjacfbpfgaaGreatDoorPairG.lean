/- law 15: both disks side by side. -/
import Derived.Test.YtibmfjacfbpfgaaGreatDoorActG
import Derived.Test.YtibmfjacfbpfgaaGreatDoorRefO
import Derived.Test.YtibmfjacfbpfgaaGreatDoorDiskB
import Derived.Test.YtibmfjacfbpfgaaGreatDoorDCr
import Derived.Test.YtibmfjacfbpfgaaGreatDoorRefC
import Derived.Test.YtibmfjacfbpfgaaGreatDoorDLay
set_option maxHeartbeats 32000000
set_option linter.unusedVariables false
set_option linter.unusedSimpArgs false
namespace Go.Proofs.YtibmfjacfbpfgaaGreatDoor.Pair
open Go.RowKit YtibmfjacfbpfgaaGreatDoorW PrintWords PrintLast PrintMore NameLaw NameCmp NameWalk NameRef NameUse YtibmfjacfbpfgaaGreatDoor.Item Own NodeRes TreeLaw SortIns SortSwap FillLaw DiffLaw RealLaw DoneLaw KeepLaw RealKeep OpLaw OpKeep DkLaw DAt DSmall DState DWait RDisk ROwnA ActLaw YtibmfjacfbpfgaaGreatDoor.Act
structure Pair (W0 W : World) (b : Nat) (vl vs vq : Value) (d : Dk) (c : Nat) (vb vw : Value) (q : Dk) (m : Nat) : Prop where
 prog : Prog W0 W b vl vs vq d m
 doc : Doc W0 W c vb vw q m
 rel : Rel d q
 apart : ∀ k, Owns b vl vs vq k → ¬ ROwns c vb vw k
theorem Pair.mono {W0 W : World} {b c m n : Nat} {vl vs vq vb vw : Value} {d q : Dk} (h : Pair W0 W b vl vs vq d c vb vw q m) (hm : m ≤ n) : Pair W0 W b vl vs vq d c vb vw q n :=
 ⟨⟨h.prog.glob, h.prog.low, h.prog.at_, h.prog.trees, h.prog.bnd.mono hm⟩, ⟨h.doc.low, h.doc.at_, h.doc.trees, h.doc.bnd.mono hm⟩, h.rel, h.apart⟩
theorem Prog.below {W0 W W1 : World} {b : Nat} {vl vs vq : Value} {d : Dk} {m : Nat} (h : Prog W0 W b vl vs vq d m) (hb : Below W.heap.size W W1) : Prog W0 W1 b vl vs vq d m := ⟨h.glob, below_next h.low hb, h.at_.below hb, h.trees, h.bnd⟩
theorem Pair.below {W0 W W1 : World} {b c m : Nat} {vl vs vq vb vw : Value} {d q : Dk} (h : Pair W0 W b vl vs vq d c vb vw q m) (hb : Below W.heap.size W W1) : Pair W0 W1 b vl vs vq d c vb vw q m :=
 ⟨Prog.below h.prog hb, doc_below h.doc hb, h.rel, h.apart⟩
theorem Doc.beside {W0 W W1 : World} {b c m : Nat} {vl vs vq vb vw : Value} {q : Dk} {T : Nat → Prop} (h : Doc W0 W c vb vw q m) (hp : ∀ k, Owns b vl vs vq k → W0.heap.size ≤ k) (ha : ∀ k, Owns b vl vs vq k → ¬ ROwns c vb vw k) (hs : Still W W1 (Owns b vl vs vq) T) : Doc W0 W1 c vb vw q m :=
 ⟨Still.low hs h.low (Nat.le_refl _) hp, h.at_.still hs (fun k hk hS => ha k hS hk), h.trees, h.bnd⟩
theorem Prog.beside {W0 W W1 : World} {b c m : Nat} {vl vs vq vb vw : Value} {d : Dk} {T : Nat → Prop} (h : Prog W0 W b vl vs vq d m) (hp : ∀ k, ROwns c vb vw k → W0.heap.size ≤ k) (ha : ∀ k, Owns b vl vs vq k → ¬ ROwns c vb vw k) (hs : Still W W1 (ROwns c vb vw) T) : Prog W0 W1 b vl vs vq d m :=
 ⟨h.glob, Still.low hs h.low (Nat.le_refl _) hp, h.at_.still hs (fun k hk hS => ha k hk hS), h.trees, h.bnd⟩
def Both2 (b : Nat) (vl vs vq : Value) (c : Nat) (vb vw : Value) (k : Nat) : Prop := Owns b vl vs vq k ∨ ROwns c vb vw k
theorem Pair.next {W0 W W1 W2 : World} {b c m n : Nat} {vl vs vq vb vw vl1 vs1 vq1 vb1 vw1 : Value} {d q d1 q1 : Dk} (h : Pair W0 W b vl vs vq d c vb vw q m)
  (h1 : DkAt W1 W0.heap.size b vl1 vs1 vq1 d1) (s1 : Still W W1 (Owns b vl vs vq) (Owns b vl1 vs1 vq1)) (h2 : RAt W2 W0.heap.size c vb1 vw1 q1) (s2 : Still W1 W2 (ROwns c vb vw) (ROwns c vb1 vw1))
  (hr : Rel d1 q1) (ht : Trees d1) (hb1 : Bnd n d1) (hb2 : Bnd n q1) : Pair W0 W2 b vl1 vs1 vq1 d1 c vb1 vw1 q1 n := by
 have hd := Doc.beside h.doc (owns_base h.prog.at_) h.apart s1;have l1 := hd.low
 have a1 : ∀ k, Owns b vl1 vs1 vq1 k → ¬ ROwns c vb vw k := fun k hk hr => by
  rcases s1.own k hk with o | o
  ·
   exact h.apart k o hr
  have := rowns_lt h.doc.at_ k hr; omega
 have l2 := Still.low s2 l1 (Nat.le_refl _) (rowns_base hd.at_);refine ⟨⟨h.prog.glob, l2, h1.still s2 (fun k hk => a1 k hk), ht, hb1⟩, ⟨l2, h2, rel_trees hr ht, hb2⟩, hr, fun k hk hr2 => ?_⟩
 rcases s2.own k hr2 with o | o
 ·
  exact a1 k hk o
 have := owns_lt h1 k hk; omega
theorem still_two {W W1 W2 : World} {b c : Nat} {vl vs vq vb vw vl1 vs1 vq1 vb1 vw1 : Value} (hlt : ∀ k, ROwns c vb vw k → k < W.heap.size) (s1 : Still W W1 (Owns b vl vs vq) (Owns b vl1 vs1 vq1)) (s2 : Still W1 W2 (ROwns c vb vw) (ROwns c vb1 vw1)) : Still W W2 (Both2 b vl vs vq c vb vw) (Both2 b vl1 vs1 vq1 c vb1 vw1) := by
 refine ⟨s2.os.trans s1.os, s2.tape.trans s1.tape, s2.output.trans s1.output, Nat.le_trans s1.size s2.size, fun k hk hs => ?_, fun k hk => ?_⟩
 ·
  exact (s2.block k (Nat.lt_of_lt_of_le hk s1.size) (fun e => hs (.inr e))).trans (s1.block k hk (fun e => hs (.inl e)))
 rcases hk with e | e
 ·
  rcases s1.own k e with o | o
  ·
   exact .inl (.inl o)
  exact .inr o
 rcases s2.own k e with o | o
 ·
  exact .inl (.inr o)
 exact .inr (Nat.le_trans s1.size o)
theorem op_of_own {nz : Int → Nd → Nd} {d : Dk} {k : Int} {p t t2 : ByteArray} {n n2 : Nd} (h : ∀ d, ownD nz d k p t n = ownD nz d k p t2 n2) : opD nz d k p t n = opD nz d k p t2 n2 := by
 unfold opD;simp only;rw [h]
theorem op_make (d : Dk) (p t : ByteArray) (n : Nd) : opD nzP d 0 p ⟨#[]⟩ n = opD nzP d 0 p t n := op_of_own (fun d => by unfold ownD; simp)
theorem op_write (d : Dk) (p t : ByteArray) (n : Nd) : opD nzP d 1 p ⟨#[]⟩ (0, 0, 0, 0, 0, 0, n.2.2.2.2.2.2) = opD nzP d 1 p t n := op_of_own (fun d => by unfold ownD; simp [nzP, nodeM])
theorem op_remove (d : Dk) (p t : ByteArray) (n : Nd) : opD nzP d 2 p ⟨#[]⟩ (0, 0, 0, 0, 0, 0, ⟨#[]⟩) = opD nzP d 2 p t n := op_of_own (fun d => by unfold ownD; simp [nzP, nodeM])
theorem op_rename (d : Dk) (p t : ByteArray) (n : Nd) : opD nzP d 3 p t (0, 0, 0, 0, 0, 0, ⟨#[]⟩) = opD nzP d 3 p t n := op_of_own (fun d => by unfold ownD; simp [nzP, nodeM])
theorem op_meta (d : Dk) (p t : ByteArray) (n : Nd) : opD nzP d 4 p ⟨#[]⟩ n = opD nzP d 4 p t n := op_of_own (fun d => by unfold ownD; simp [nzP, nodeM])
theorem op_sync (d : Dk) (p t : ByteArray) (n : Nd) : opD nzP d 5 p ⟨#[]⟩ n = opD nzP d 5 p t n := op_of_own (fun d => by unfold ownD; simp)
end Go.Proofs.YtibmfjacfbpfgaaGreatDoor.Pair
namespace Go.Proofs.YtibmfjacfbpfgaaGreatDoor.LawDo
open Go.RowKit YtibmfjacfbpfgaaGreatDoorW PrintWords PrintLast PrintMore NameLaw NameCmp NameWalk NameRef NameUse YtibmfjacfbpfgaaGreatDoor.Item Own NodeRes TreeLaw SortIns SortSwap FillLaw DiffLaw RealLaw DoneLaw KeepLaw RealKeep OpLaw OpKeep DkLaw DAt DSmall DState DWait RDisk ROwnA ActLaw YtibmfjacfbpfgaaGreatDoor.Act DMake DWrite DRemove DRename DMeta DSync DFlush DCrash RDo RCrash Pair
def ActPost (W0 W : World) (b : Nat) (vl vs vq : Value) (c : Nat) (vb vw : Value) (d q : Dk) (m : Nat) (x : Ax) (e : Ending) (w' : World) : Prop :=
 e = .returned (.bool true) ∧ ∃ vl1 vs1 vq1 vb1 vw1, Pair W0 w' b vl1 vs1 vq1 (actD nzP d x) c vb1 vw1 (actD nzR q x) (m + 1) ∧ Still W w' (Both2 b vl vs vq c vb vw) (Both2 b vl1 vs1 vq1 c vb1 vw1)
theorem kAct_of {x : Ax} {k : Int} (h : kAct x = k) : 0 ≤ k ∧ k < 11 := h ▸ absR_le (by decide) x.1
theorem act_op {nz : Int → Nd → Nd} {d : Dk} {x : Ax} {k : Int} (h : kAct x = k) (hk : k < 7) : actD nz d x = (opD nz d k x.2.1 x.2.2.1 x.2.2.2.1).2 := by unfold actD; rw [h, if_pos hk]
theorem act_fuse {nz : Int → Nd → Nd} {d : Dk} {x : Ax} (h : kAct x = 7) : actD nz d x = { d with fuse := max x.2.2.2.2.1 (-1) } := by unfold actD; rw [h]; rfl
theorem act_fail {nz : Int → Nd → Nd} {d : Dk} {x : Ax} (h : kAct x = 8) : actD nz d x = { d with fail := max x.2.2.2.2.1 0 } := by unfold actD; rw [h]; rfl
theorem act_crash {nz : Int → Nd → Nd} {d : Dk} {x : Ax} (h : kAct x = 9) : actD nz d x = crashD d x.2.2.2.2.2.1 x.2.2.2.2.2.2.1 x.2.2.2.2.2.2.2 := by unfold actD; rw [h]; rfl
theorem act_none {nz : Int → Nd → Nd} {d : Dk} {x : Ax} (h : kAct x = 10) : actD nz d x = d := by unfold actD; rw [h]; rfl
set_option maxRecDepth 100000 in
theorem do_any (W0 W : World) (b : Nat) (vl vs vq : Value) (d : Dk) (c : Nat) (vb vw : Value) (q : Dk) (m : Nat) (hP : Pair W0 W b vl vs vq d c vb vw q m) (hm : m ≤ 600000) (dk : Int) (pa tp : ByteArray) (kd mo ui gi mt at_ : Int) (da : ByteArray) (num kp mk ct : Int) (hf : FitX (dk, pa, tp, (kd, mo, ui, gi, mt, at_, da), num, kp, mk, ct)) (hp : pa.size ≤ 1000) (htp : tp.size ≤ 1000) (hda : da.size ≤ 1000) :
  Calls Tryz.prog 12 #[.pointer (some ⟨b, 0, none⟩), .pointer (some ⟨c, 0, none⟩), .agg #[.int .i64 dk, .string pa, .string tp, .int .i64 kd, .int .u32 mo, .int .u32 ui, .int .u32 gi, .int .i64 mt, .int .i64 at_, .string da, .int .i64 num, .int .i64 kp, .int .u64 mk, .int .i64 ct]] W (ActPost W0 W b vl vs vq c vb vw d q m (dk, pa, tp, (kd, mo, ui, gi, mt, at_, da), num, kp, mk, ct)) := by
 have HF := Hi hf;have hb1 := below_one W (.cells #[.int .i64 dk, .string pa, .string tp, .int .i64 kd, .int .u32 mo, .int .u32 ui, .int .u32 gi, .int .i64 mt, .int .i64 at_, .string da, .int .i64 num, .int .i64 kp, .int .u64 mk, .int .i64 ct] 36);have HP1 := Hi (hP.below hb1);have HX1 := Hi (heap_new W (.cells #[.int .i64 dk, .string pa, .string tp, .int .i64 kd, .int .u32 mo, .int .u32 ui, .int .u32 gi, .int .i64 mt, .int .i64 at_, .string da, .int .i64 num, .int .i64 kp, .int .u64 mk, .int .i64 ct] 36));have HS1 := Hi (Still.below hb1 (Both2 b vl vs vq c vb vw));have HPO := Hi (fun k hk => Nat.lt_of_lt_of_le (owns_lt hP.prog.at_ k hk) hb1.size);obtain ⟨n0, n1, n2, n3, n4, n5, n6, n7, n8, n9, n10, n11, n12, n13⟩ := Own.cs14 HX1.out;clear hb1 hf
 have HNX := Hi (show ∀ k, Both2 b vl vs vq c vb vw k → k ≠ W.heap.size from fun k hk e => by
  rcases hk with o | o
  ·
   have := owns_lt hP.prog.at_ k o; omega
  have := rowns_lt hP.doc.at_ k o; omega)
 clear hP;obtain ⟨k, hk⟩ : ∃ k, kAct (dk, pa, tp, (kd, mo, ui, gi, mt, at_, da), num, kp, mk, ct) = k := ⟨_, rfl⟩;have hk0 := kAct_of hk;have HK := Hi hk;have hcs : k = 0 ∨ k = 1 ∨ k = 2 ∨ k = 3 ∨ k = 4 ∨ k = 5 ∨ k = 6 ∨ k = 7 ∨ k = 8 ∨ k = 9 ∨ k = 10 := by omega
 have HCS := Hi hcs;clear hk0 hcs;unfold kAct absR at hk;simp only at hk;go_enter Tryz.func12, Tryz.ntmps12
 rcases HCS.out with rfl | rfl | rfl | rfl | rfl | rfl | rfl | rfl | rfl | rfl | rfl
 ·
  have hneg : ¬ dk.tmod 11 < 0 := by split at hk <;> omega
  rw [if_neg hneg] at hk;have hwk : Go.RowKit.wrap64 0 = 0 := by unfold Go.RowKit.wrap64; omega
  have HC1 := Hi (make_any W0 _ b vl vs vq d m HP1.out.prog (by omega) pa (by omega) kd mo ui gi mt at_ da (by omega));rw [op_make d pa tp (kd, mo, ui, gi, mt, at_, da)] at HC1;have HD0 := HP1.out.doc;have HA1 := Hi (act_op (nz := nzP) (d := d) HK.out (by decide));have HA2 := Hi (act_op (nz := nzR) (d := q) HK.out (by decide));have HRL := Hi (op_rel HP1.out.rel 0 pa tp (kd, mo, ui, gi, mt, at_, da));have HTR := Hi (op_trees HP1.out.prog.trees 0 pa tp (kd, mo, ui, gi, mt, at_, da));have HBP := Hi (op_bnd nzP_size HP1.out.prog.trees HP1.out.prog.bnd 0 pa tp (kd, mo, ui, gi, mt, at_, da) (by show da.size ≤ 100000; omega));have HBR := Hi (op_bnd nzR_size HP1.out.doc.trees HP1.out.doc.bnd 0 pa tp (kd, mo, ui, gi, mt, at_, da) (by show da.size ≤ 100000; omega));have HDO : Hid (∀ W', Doc W0 W' c vb vw q m → _) := Hi (fun W' h => rdo_any W0 W' c vb vw q m h (by omega) 0 (by decide) pa tp kd mo ui gi mt at_ da (by omega) (by omega) (by omega) HF.out.mode);clear HD0;generalize opD nzP d 0 pa tp (kd, mo, ui, gi, mt, at_, da) = X1 at *;generalize opD nzR q 0 pa tp (kd, mo, ui, gi, mt, at_, da) = X2 at *
  go_wp2_with fail
  refine HC1.out.mono ?_;rintro e w2 ⟨rfl, vl1, vs1, vq1, hd2, hs2⟩;have HD2 := Hi hd2;have HS2 := Hi hs2;have HDC := Hi (HDO.out w2 (Doc.beside HP1.out.doc (owns_base HP1.out.prog.at_) HP1.out.apart hs2));have HX2 := Hi ((hs2.block W.heap.size (Own.lo HX1.out) (fun o => HNX.out _ (.inl o) rfl)).trans HX1.out);clear hd2 hs2 HC1 HDO n0 n1 n2 n3 n4 n5 n6 n7 n8 n9 n10 n11 n12 n13;obtain ⟨n0, n1, n2, n3, n4, n5, n6, n7, n8, n9, n10, n11, n12, n13⟩ := Own.cs14 HX2.out
  go_wp2_with fail
  refine HDC.out.mono ?_;rintro e w3 ⟨rfl, vb1, vw1, hd3, hs3⟩;have HD3 := Hi hd3;have HS3 := Hi hs3;have hre := HRL.out.1;clear hd3 hs3 HDC;obtain ⟨r1, D1⟩ := X1;obtain ⟨r2, D2⟩ := X2;obtain rfl : r1 = r2 := hre;go_wp2;go_ret;refine ⟨rfl, vl1, vs1, vq1, vb1, vw1, ?_, HS1.out.trans (still_two (fun k hk => rowns_lt HP1.out.doc.at_ k hk) HS2.out HS3.out)⟩;rw [HA1.out, HA2.out];exact HP1.out.next HD2.out HS2.out HD3.out HS3.out HRL.out.2 HTR.out HBP.out HBR.out
 ·
  by_cases hneg : dk.tmod 11 < 0 <;> (first | rw [if_pos hneg] at hk | rw [if_neg hneg] at hk) <;> (
   have hwk : Go.RowKit.wrap64 1 = 1 := by unfold Go.RowKit.wrap64; omega
   have HC1 := Hi (write_any W0 _ b vl vs vq d m HP1.out.prog (by omega) pa (by omega) da (by omega));rw [op_write d pa tp (kd, mo, ui, gi, mt, at_, da)] at HC1;have HD0 := HP1.out.doc;have HA1 := Hi (act_op (nz := nzP) (d := d) HK.out (by decide));have HA2 := Hi (act_op (nz := nzR) (d := q) HK.out (by decide));have HRL := Hi (op_rel HP1.out.rel 1 pa tp (kd, mo, ui, gi, mt, at_, da));have HTR := Hi (op_trees HP1.out.prog.trees 1 pa tp (kd, mo, ui, gi, mt, at_, da));have HBP := Hi (op_bnd nzP_size HP1.out.prog.trees HP1.out.prog.bnd 1 pa tp (kd, mo, ui, gi, mt, at_, da) (by show da.size ≤ 100000; omega));have HBR := Hi (op_bnd nzR_size HP1.out.doc.trees HP1.out.doc.bnd 1 pa tp (kd, mo, ui, gi, mt, at_, da) (by show da.size ≤ 100000; omega));have HDO : Hid (∀ W', Doc W0 W' c vb vw q m → _) := Hi (fun W' h => rdo_any W0 W' c vb vw q m h (by omega) 1 (by decide) pa tp kd mo ui gi mt at_ da (by omega) (by omega) (by omega) HF.out.mode);clear HD0;generalize opD nzP d 1 pa tp (kd, mo, ui, gi, mt, at_, da) = X1 at *;generalize opD nzR q 1 pa tp (kd, mo, ui, gi, mt, at_, da) = X2 at *
   go_wp2_with fail
   refine HC1.out.mono ?_;rintro e w2 ⟨rfl, vl1, vs1, vq1, hd2, hs2⟩;have HD2 := Hi hd2;have HS2 := Hi hs2;have HDC := Hi (HDO.out w2 (Doc.beside HP1.out.doc (owns_base HP1.out.prog.at_) HP1.out.apart hs2));have HX2 := Hi ((hs2.block W.heap.size (Own.lo HX1.out) (fun o => HNX.out _ (.inl o) rfl)).trans HX1.out);clear hd2 hs2 HC1 HDO n0 n1 n2 n3 n4 n5 n6 n7 n8 n9 n10 n11 n12 n13;obtain ⟨n0, n1, n2, n3, n4, n5, n6, n7, n8, n9, n10, n11, n12, n13⟩ := Own.cs14 HX2.out
   go_wp2_with fail
   refine HDC.out.mono ?_;rintro e w3 ⟨rfl, vb1, vw1, hd3, hs3⟩;have HD3 := Hi hd3;have HS3 := Hi hs3;have hre := HRL.out.1;clear hd3 hs3 HDC;obtain ⟨r1, D1⟩ := X1;obtain ⟨r2, D2⟩ := X2;obtain rfl : r1 = r2 := hre;go_wp2;go_ret;refine ⟨rfl, vl1, vs1, vq1, vb1, vw1, ?_, HS1.out.trans (still_two (fun k hk => rowns_lt HP1.out.doc.at_ k hk) HS2.out HS3.out)⟩;rw [HA1.out, HA2.out]
   exact HP1.out.next HD2.out HS2.out HD3.out HS3.out HRL.out.2 HTR.out HBP.out HBR.out)
 ·
  by_cases hneg : dk.tmod 11 < 0 <;> (first | rw [if_pos hneg] at hk | rw [if_neg hneg] at hk) <;> (
   have hwk : Go.RowKit.wrap64 2 = 2 := by unfold Go.RowKit.wrap64; omega
   have HC1 := Hi (remove_any W0 _ b vl vs vq d m HP1.out.prog (by omega) pa (by omega));rw [op_remove d pa tp (kd, mo, ui, gi, mt, at_, da)] at HC1;have HD0 := HP1.out.doc;have HA1 := Hi (act_op (nz := nzP) (d := d) HK.out (by decide));have HA2 := Hi (act_op (nz := nzR) (d := q) HK.out (by decide));have HRL := Hi (op_rel HP1.out.rel 2 pa tp (kd, mo, ui, gi, mt, at_, da));have HTR := Hi (op_trees HP1.out.prog.trees 2 pa tp (kd, mo, ui, gi, mt, at_, da));have HBP := Hi (op_bnd nzP_size HP1.out.prog.trees HP1.out.prog.bnd 2 pa tp (kd, mo, ui, gi, mt, at_, da) (by show da.size ≤ 100000; omega));have HBR := Hi (op_bnd nzR_size HP1.out.doc.trees HP1.out.doc.bnd 2 pa tp (kd, mo, ui, gi, mt, at_, da) (by show da.size ≤ 100000; omega));have HDO : Hid (∀ W', Doc W0 W' c vb vw q m → _) := Hi (fun W' h => rdo_any W0 W' c vb vw q m h (by omega) 2 (by decide) pa tp kd mo ui gi mt at_ da (by omega) (by omega) (by omega) HF.out.mode);clear HD0;generalize opD nzP d 2 pa tp (kd, mo, ui, gi, mt, at_, da) = X1 at *;generalize opD nzR q 2 pa tp (kd, mo, ui, gi, mt, at_, da) = X2 at *
   go_wp2_with fail
   refine HC1.out.mono ?_;rintro e w2 ⟨rfl, vl1, vs1, vq1, hd2, hs2⟩;have HD2 := Hi hd2;have HS2 := Hi hs2;have HDC := Hi (HDO.out w2 (Doc.beside HP1.out.doc (owns_base HP1.out.prog.at_) HP1.out.apart hs2));have HX2 := Hi ((hs2.block W.heap.size (Own.lo HX1.out) (fun o => HNX.out _ (.inl o) rfl)).trans HX1.out);clear hd2 hs2 HC1 HDO n0 n1 n2 n3 n4 n5 n6 n7 n8 n9 n10 n11 n12 n13;obtain ⟨n0, n1, n2, n3, n4, n5, n6, n7, n8, n9, n10, n11, n12, n13⟩ := Own.cs14 HX2.out
   go_wp2_with fail
   refine HDC.out.mono ?_;rintro e w3 ⟨rfl, vb1, vw1, hd3, hs3⟩;have HD3 := Hi hd3;have HS3 := Hi hs3;have hre := HRL.out.1;clear hd3 hs3 HDC;obtain ⟨r1, D1⟩ := X1;obtain ⟨r2, D2⟩ := X2;obtain rfl : r1 = r2 := hre;go_wp2;go_ret;refine ⟨rfl, vl1, vs1, vq1, vb1, vw1, ?_, HS1.out.trans (still_two (fun k hk => rowns_lt HP1.out.doc.at_ k hk) HS2.out HS3.out)⟩;rw [HA1.out, HA2.out]
   exact HP1.out.next HD2.out HS2.out HD3.out HS3.out HRL.out.2 HTR.out HBP.out HBR.out)
 ·
  by_cases hneg : dk.tmod 11 < 0 <;> (first | rw [if_pos hneg] at hk | rw [if_neg hneg] at hk) <;> (
   have hwk : Go.RowKit.wrap64 3 = 3 := by unfold Go.RowKit.wrap64; omega
   have HC1 := Hi (rename_any W0 _ b vl vs vq d m HP1.out.prog (by omega) pa (by omega) tp (by omega));rw [op_rename d pa tp (kd, mo, ui, gi, mt, at_, da)] at HC1;have HD0 := HP1.out.doc;have HA1 := Hi (act_op (nz := nzP) (d := d) HK.out (by decide));have HA2 := Hi (act_op (nz := nzR) (d := q) HK.out (by decide));have HRL := Hi (op_rel HP1.out.rel 3 pa tp (kd, mo, ui, gi, mt, at_, da));have HTR := Hi (op_trees HP1.out.prog.trees 3 pa tp (kd, mo, ui, gi, mt, at_, da));have HBP := Hi (op_bnd nzP_size HP1.out.prog.trees HP1.out.prog.bnd 3 pa tp (kd, mo, ui, gi, mt, at_, da) (by show da.size ≤ 100000; omega));have HBR := Hi (op_bnd nzR_size HP1.out.doc.trees HP1.out.doc.bnd 3 pa tp (kd, mo, ui, gi, mt, at_, da) (by show da.size ≤ 100000; omega));have HDO : Hid (∀ W', Doc W0 W' c vb vw q m → _) := Hi (fun W' h => rdo_any W0 W' c vb vw q m h (by omega) 3 (by decide) pa tp kd mo ui gi mt at_ da (by omega) (by omega) (by omega) HF.out.mode);clear HD0;generalize opD nzP d 3 pa tp (kd, mo, ui, gi, mt, at_, da) = X1 at *;generalize opD nzR q 3 pa tp (kd, mo, ui, gi, mt, at_, da) = X2 at *
   go_wp2_with fail
   refine HC1.out.mono ?_;rintro e w2 ⟨rfl, vl1, vs1, vq1, hd2, hs2⟩;have HD2 := Hi hd2;have HS2 := Hi hs2;have HDC := Hi (HDO.out w2 (Doc.beside HP1.out.doc (owns_base HP1.out.prog.at_) HP1.out.apart hs2));have HX2 := Hi ((hs2.block W.heap.size (Own.lo HX1.out) (fun o => HNX.out _ (.inl o) rfl)).trans HX1.out);clear hd2 hs2 HC1 HDO n0 n1 n2 n3 n4 n5 n6 n7 n8 n9 n10 n11 n12 n13;obtain ⟨n0, n1, n2, n3, n4, n5, n6, n7, n8, n9, n10, n11, n12, n13⟩ := Own.cs14 HX2.out
   go_wp2_with fail
   refine HDC.out.mono ?_;rintro e w3 ⟨rfl, vb1, vw1, hd3, hs3⟩;have HD3 := Hi hd3;have HS3 := Hi hs3;have hre := HRL.out.1;clear hd3 hs3 HDC;obtain ⟨r1, D1⟩ := X1;obtain ⟨r2, D2⟩ := X2;obtain rfl : r1 = r2 := hre;go_wp2;go_ret;refine ⟨rfl, vl1, vs1, vq1, vb1, vw1, ?_, HS1.out.trans (still_two (fun k hk => rowns_lt HP1.out.doc.at_ k hk) HS2.out HS3.out)⟩;rw [HA1.out, HA2.out]
   exact HP1.out.next HD2.out HS2.out HD3.out HS3.out HRL.out.2 HTR.out HBP.out HBR.out)
 ·
  by_cases hneg : dk.tmod 11 < 0 <;> (first | rw [if_pos hneg] at hk | rw [if_neg hneg] at hk) <;> (
   have hwk : Go.RowKit.wrap64 4 = 4 := by unfold Go.RowKit.wrap64; omega
   have HC1 := Hi (meta_any W0 _ b vl vs vq d m HP1.out.prog (by omega) pa (by omega) kd mo ui gi mt at_ da);rw [op_meta d pa tp (kd, mo, ui, gi, mt, at_, da)] at HC1;have HD0 := HP1.out.doc;have HA1 := Hi (act_op (nz := nzP) (d := d) HK.out (by decide));have HA2 := Hi (act_op (nz := nzR) (d := q) HK.out (by decide));have HRL := Hi (op_rel HP1.out.rel 4 pa tp (kd, mo, ui, gi, mt, at_, da));have HTR := Hi (op_trees HP1.out.prog.trees 4 pa tp (kd, mo, ui, gi, mt, at_, da));have HBP := Hi (op_bnd nzP_size HP1.out.prog.trees HP1.out.prog.bnd 4 pa tp (kd, mo, ui, gi, mt, at_, da) (by show da.size ≤ 100000; omega));have HBR := Hi (op_bnd nzR_size HP1.out.doc.trees HP1.out.doc.bnd 4 pa tp (kd, mo, ui, gi, mt, at_, da) (by show da.size ≤ 100000; omega));have HDO : Hid (∀ W', Doc W0 W' c vb vw q m → _) := Hi (fun W' h => rdo_any W0 W' c vb vw q m h (by omega) 4 (by decide) pa tp kd mo ui gi mt at_ da (by omega) (by omega) (by omega) HF.out.mode);clear HD0;generalize opD nzP d 4 pa tp (kd, mo, ui, gi, mt, at_, da) = X1 at *;generalize opD nzR q 4 pa tp (kd, mo, ui, gi, mt, at_, da) = X2 at *
   go_wp2_with fail
   refine HC1.out.mono ?_;rintro e w2 ⟨rfl, vl1, vs1, vq1, hd2, hs2⟩;have HD2 := Hi hd2;have HS2 := Hi hs2;have HDC := Hi (HDO.out w2 (Doc.beside HP1.out.doc (owns_base HP1.out.prog.at_) HP1.out.apart hs2));have HX2 := Hi ((hs2.block W.heap.size (Own.lo HX1.out) (fun o => HNX.out _ (.inl o) rfl)).trans HX1.out);clear hd2 hs2 HC1 HDO n0 n1 n2 n3 n4 n5 n6 n7 n8 n9 n10 n11 n12 n13;obtain ⟨n0, n1, n2, n3, n4, n5, n6, n7, n8, n9, n10, n11, n12, n13⟩ := Own.cs14 HX2.out
   go_wp2_with fail
   refine HDC.out.mono ?_;rintro e w3 ⟨rfl, vb1, vw1, hd3, hs3⟩;have HD3 := Hi hd3;have HS3 := Hi hs3;have hre := HRL.out.1;clear hd3 hs3 HDC;obtain ⟨r1, D1⟩ := X1;obtain ⟨r2, D2⟩ := X2;obtain rfl : r1 = r2 := hre;go_wp2;go_ret;refine ⟨rfl, vl1, vs1, vq1, vb1, vw1, ?_, HS1.out.trans (still_two (fun k hk => rowns_lt HP1.out.doc.at_ k hk) HS2.out HS3.out)⟩;rw [HA1.out, HA2.out]
   exact HP1.out.next HD2.out HS2.out HD3.out HS3.out HRL.out.2 HTR.out HBP.out HBR.out)
 ·
  by_cases hneg : dk.tmod 11 < 0 <;> (first | rw [if_pos hneg] at hk | rw [if_neg hneg] at hk) <;> (
   have hwk : Go.RowKit.wrap64 5 = 5 := by unfold Go.RowKit.wrap64; omega
   have HC1 := Hi (sync_any W0 _ b vl vs vq d m HP1.out.prog (by omega) pa (by omega) (kd, mo, ui, gi, mt, at_, da));rw [op_sync d pa tp (kd, mo, ui, gi, mt, at_, da)] at HC1;have HD0 := HP1.out.doc;have HA1 := Hi (act_op (nz := nzP) (d := d) HK.out (by decide));have HA2 := Hi (act_op (nz := nzR) (d := q) HK.out (by decide));have HRL := Hi (op_rel HP1.out.rel 5 pa tp (kd, mo, ui, gi, mt, at_, da));have HTR := Hi (op_trees HP1.out.prog.trees 5 pa tp (kd, mo, ui, gi, mt, at_, da));have HBP := Hi (op_bnd nzP_size HP1.out.prog.trees HP1.out.prog.bnd 5 pa tp (kd, mo, ui, gi, mt, at_, da) (by show da.size ≤ 100000; omega));have HBR := Hi (op_bnd nzR_size HP1.out.doc.trees HP1.out.doc.bnd 5 pa tp (kd, mo, ui, gi, mt, at_, da) (by show da.size ≤ 100000; omega));have HDO : Hid (∀ W', Doc W0 W' c vb vw q m → _) := Hi (fun W' h => rdo_any W0 W' c vb vw q m h (by omega) 5 (by decide) pa tp kd mo ui gi mt at_ da (by omega) (by omega) (by omega) HF.out.mode);clear HD0;generalize opD nzP d 5 pa tp (kd, mo, ui, gi, mt, at_, da) = X1 at *;generalize opD nzR q 5 pa tp (kd, mo, ui, gi, mt, at_, da) = X2 at *
   go_wp2_with fail
   refine HC1.out.mono ?_;rintro e w2 ⟨rfl, vl1, vs1, vq1, hd2, hs2⟩;have HD2 := Hi hd2;have HS2 := Hi hs2;have HDC := Hi (HDO.out w2 (Doc.beside HP1.out.doc (owns_base HP1.out.prog.at_) HP1.out.apart hs2));have HX2 := Hi ((hs2.block W.heap.size (Own.lo HX1.out) (fun o => HNX.out _ (.inl o) rfl)).trans HX1.out);clear hd2 hs2 HC1 HDO n0 n1 n2 n3 n4 n5 n6 n7 n8 n9 n10 n11 n12 n13;obtain ⟨n0, n1, n2, n3, n4, n5, n6, n7, n8, n9, n10, n11, n12, n13⟩ := Own.cs14 HX2.out
   go_wp2_with fail
   refine HDC.out.mono ?_;rintro e w3 ⟨rfl, vb1, vw1, hd3, hs3⟩;have HD3 := Hi hd3;have HS3 := Hi hs3;have hre := HRL.out.1;clear hd3 hs3 HDC;obtain ⟨r1, D1⟩ := X1;obtain ⟨r2, D2⟩ := X2;obtain rfl : r1 = r2 := hre;go_wp2;go_ret;refine ⟨rfl, vl1, vs1, vq1, vb1, vw1, ?_, HS1.out.trans (still_two (fun k hk => rowns_lt HP1.out.doc.at_ k hk) HS2.out HS3.out)⟩;rw [HA1.out, HA2.out]
   exact HP1.out.next HD2.out HS2.out HD3.out HS3.out HRL.out.2 HTR.out HBP.out HBR.out)
 ·
  by_cases hneg : dk.tmod 11 < 0 <;> (first | rw [if_pos hneg] at hk | rw [if_neg hneg] at hk) <;> (
   have hwk : Go.RowKit.wrap64 6 = 6 := by unfold Go.RowKit.wrap64; omega
   have HC1 := Hi (flush_any W0 _ b vl vs vq d m HP1.out.prog (by omega) pa tp (kd, mo, ui, gi, mt, at_, da));rw [(rfl : opD nzP d 6 pa tp (kd, mo, ui, gi, mt, at_, da) = _)] at HC1;have HD0 := HP1.out.doc;have HA1 := Hi (act_op (nz := nzP) (d := d) HK.out (by decide));have HA2 := Hi (act_op (nz := nzR) (d := q) HK.out (by decide));have HRL := Hi (op_rel HP1.out.rel 6 pa tp (kd, mo, ui, gi, mt, at_, da));have HTR := Hi (op_trees HP1.out.prog.trees 6 pa tp (kd, mo, ui, gi, mt, at_, da));have HBP := Hi (op_bnd nzP_size HP1.out.prog.trees HP1.out.prog.bnd 6 pa tp (kd, mo, ui, gi, mt, at_, da) (by show da.size ≤ 100000; omega));have HBR := Hi (op_bnd nzR_size HP1.out.doc.trees HP1.out.doc.bnd 6 pa tp (kd, mo, ui, gi, mt, at_, da) (by show da.size ≤ 100000; omega));have HDO : Hid (∀ W', Doc W0 W' c vb vw q m → _) := Hi (fun W' h => rdo_any W0 W' c vb vw q m h (by omega) 6 (by decide) pa tp kd mo ui gi mt at_ da (by omega) (by omega) (by omega) HF.out.mode);clear HD0;generalize opD nzP d 6 pa tp (kd, mo, ui, gi, mt, at_, da) = X1 at *;generalize opD nzR q 6 pa tp (kd, mo, ui, gi, mt, at_, da) = X2 at *
   go_wp2_with fail
   refine HC1.out.mono ?_;rintro e w2 ⟨rfl, vl1, vs1, vq1, hd2, hs2⟩;have HD2 := Hi hd2;have HS2 := Hi hs2;have HDC := Hi (HDO.out w2 (Doc.beside HP1.out.doc (owns_base HP1.out.prog.at_) HP1.out.apart hs2));have HX2 := Hi ((hs2.block W.heap.size (Own.lo HX1.out) (fun o => HNX.out _ (.inl o) rfl)).trans HX1.out);clear hd2 hs2 HC1 HDO n0 n1 n2 n3 n4 n5 n6 n7 n8 n9 n10 n11 n12 n13;obtain ⟨n0, n1, n2, n3, n4, n5, n6, n7, n8, n9, n10, n11, n12, n13⟩ := Own.cs14 HX2.out
   go_wp2_with fail
   refine HDC.out.mono ?_;rintro e w3 ⟨rfl, vb1, vw1, hd3, hs3⟩;have HD3 := Hi hd3;have HS3 := Hi hs3;have hre := HRL.out.1;clear hd3 hs3 HDC;obtain ⟨r1, D1⟩ := X1;obtain ⟨r2, D2⟩ := X2;obtain rfl : r1 = r2 := hre;go_wp2;go_ret;refine ⟨rfl, vl1, vs1, vq1, vb1, vw1, ?_, HS1.out.trans (still_two (fun k hk => rowns_lt HP1.out.doc.at_ k hk) HS2.out HS3.out)⟩;rw [HA1.out, HA2.out]
   exact HP1.out.next HD2.out HS2.out HD3.out HS3.out HRL.out.2 HTR.out HBP.out HBR.out)
 ·
  by_cases hneg : dk.tmod 11 < 0 <;> (first | rw [if_pos hneg] at hk | rw [if_neg hneg] at hk) <;> (
   have hwk : Go.RowKit.wrap64 7 = 7 := by unfold Go.RowKit.wrap64; omega
   have HC1 := Hi (fuse_any W0.heap.size b vl vs vq d num _ HP1.out.prog.at_);have HA1 := Hi (act_fuse (nz := nzP) (d := d) HK.out);have HA2 := Hi (act_fuse (nz := nzR) (d := q) HK.out);have hxn := HF.out.num;have HXN : Hid (num ≤ 9223372036854775807) := Hi hxn;clear hxn
   go_wp2_with fail
   refine HC1.out.mono ?_;rintro e w2 ⟨rfl, hd2, hg2⟩;have HD2 := Hi hd2;have HS2 := Hi (still_own vl vs vq hg2);have HDC := Hi (Doc.beside HP1.out.doc (owns_base HP1.out.prog.at_) HP1.out.apart HS2.out);have HX2 := Hi ((HS2.out.block W.heap.size (Own.lo HX1.out) (fun o => HNX.out _ (.inl o) rfl)).trans HX1.out);clear hd2 hg2 HC1 n0 n1 n2 n3 n4 n5 n6 n7 n8 n9 n10 n11 n12 n13;have n10 : w2.cell? ⟨W.heap.size, 10, none⟩ = some (.int .i64 num) := by rw [cell_of HX2.out]; rfl
   have z := HDC.out.at_.fz 3;have g := HDC.out.at_.c3;have HDP := Hi (HDC.out.at_.put 3 (.int .i64 (max num (-1))) (d' := { q with fuse := max num (-1) }) rfl rfl rfl);go_wp2;go_ret;refine ⟨rfl, vl, vs, vq, vb, vw, ?_, HS1.out.trans (still_two (fun k hk => rowns_lt HP1.out.doc.at_ k hk) HS2.out (still_rset w2 c 3 _ vb vw))⟩;rw [HA1.out, HA2.out]
   exact HP1.out.next HD2.out HS2.out HDP.out (still_rset w2 c 3 _ vb vw) ⟨HP1.out.rel.base, HP1.out.rel.waits, HP1.out.rel.limit, rfl, HP1.out.rel.fail, HP1.out.rel.off, HP1.out.rel.steps⟩ (trees_set HP1.out.prog.trees rfl rfl) ⟨(HP1.out.prog.bnd.mono (Nat.le_succ m)).len, (HP1.out.prog.bnd.mono (Nat.le_succ m)).steps, by have := HXN.out; show max num (-1) ≤ _; omega, HP1.out.prog.bnd.fail, HP1.out.prog.bnd.base, HP1.out.prog.bnd.waits⟩ ⟨(HP1.out.doc.bnd.mono (Nat.le_succ m)).len, (HP1.out.doc.bnd.mono (Nat.le_succ m)).steps, by have := HXN.out; show max num (-1) ≤ _; omega, HP1.out.doc.bnd.fail, HP1.out.doc.bnd.base, HP1.out.doc.bnd.waits⟩)
 ·
  by_cases hneg : dk.tmod 11 < 0 <;> (first | rw [if_pos hneg] at hk | rw [if_neg hneg] at hk) <;> (
   have hwk : Go.RowKit.wrap64 8 = 8 := by unfold Go.RowKit.wrap64; omega
   have HC1 := Hi (fail_any W0.heap.size b vl vs vq d num _ HP1.out.prog.at_);have HA1 := Hi (act_fail (nz := nzP) (d := d) HK.out);have HA2 := Hi (act_fail (nz := nzR) (d := q) HK.out);have hxn := HF.out.num;have HXN : Hid (num ≤ 9223372036854775807) := Hi hxn;clear hxn
   go_wp2_with fail
   refine HC1.out.mono ?_;rintro e w2 ⟨rfl, hd2, hg2⟩;have HD2 := Hi hd2;have HS2 := Hi (still_own vl vs vq hg2);have HDC := Hi (Doc.beside HP1.out.doc (owns_base HP1.out.prog.at_) HP1.out.apart HS2.out);have HX2 := Hi ((HS2.out.block W.heap.size (Own.lo HX1.out) (fun o => HNX.out _ (.inl o) rfl)).trans HX1.out);clear hd2 hg2 HC1 n0 n1 n2 n3 n4 n5 n6 n7 n8 n9 n10 n11 n12 n13;have n10 : w2.cell? ⟨W.heap.size, 10, none⟩ = some (.int .i64 num) := by rw [cell_of HX2.out]; rfl
   have z := HDC.out.at_.fz 4;have g := HDC.out.at_.c4;have HDP := Hi (HDC.out.at_.put 4 (.int .i64 (max num 0)) (d' := { q with fail := max num 0 }) rfl rfl rfl);go_wp2;go_ret;refine ⟨rfl, vl, vs, vq, vb, vw, ?_, HS1.out.trans (still_two (fun k hk => rowns_lt HP1.out.doc.at_ k hk) HS2.out (still_rset w2 c 4 _ vb vw))⟩;rw [HA1.out, HA2.out]
   exact HP1.out.next HD2.out HS2.out HDP.out (still_rset w2 c 4 _ vb vw) ⟨HP1.out.rel.base, HP1.out.rel.waits, HP1.out.rel.limit, HP1.out.rel.fuse, rfl, HP1.out.rel.off, HP1.out.rel.steps⟩ (trees_set HP1.out.prog.trees rfl rfl) ⟨(HP1.out.prog.bnd.mono (Nat.le_succ m)).len, (HP1.out.prog.bnd.mono (Nat.le_succ m)).steps, HP1.out.prog.bnd.fuse, by have := HXN.out; show max num 0 ≤ _; omega, HP1.out.prog.bnd.base, HP1.out.prog.bnd.waits⟩ ⟨(HP1.out.doc.bnd.mono (Nat.le_succ m)).len, (HP1.out.doc.bnd.mono (Nat.le_succ m)).steps, HP1.out.doc.bnd.fuse, by have := HXN.out; show max num 0 ≤ _; omega, HP1.out.doc.bnd.base, HP1.out.doc.bnd.waits⟩)
 ·
  by_cases hneg : dk.tmod 11 < 0 <;> (first | rw [if_pos hneg] at hk | rw [if_neg hneg] at hk) <;> (
   have hwk : Go.RowKit.wrap64 9 = 9 := by unfold Go.RowKit.wrap64; omega
   have HC1 := Hi (crash_any W0 _ b vl vs vq d m HP1.out.prog (by omega) kp mk ct HF.out.mask.1 HF.out.mask.2);have HA1 := Hi (act_crash (nz := nzP) (d := d) HK.out);have HA2 := Hi (act_crash (nz := nzR) (d := q) HK.out);have HRL := Hi (crash_rel HP1.out.rel kp mk ct);have HTR := Hi (crash_trees HP1.out.prog.trees kp mk ct);have HBP := Hi (crash_bnd (HP1.out.prog.bnd.mono (Nat.le_succ m)) kp mk ct);have HBR := Hi (crash_bnd (HP1.out.doc.bnd.mono (Nat.le_succ m)) kp mk ct);have HDO := Hi (fun W' h => rcrash_any W0 W' c vb vw q m h (by omega) kp mk ct HF.out.mask.1 HF.out.mask.2);generalize crashD d kp mk ct = X1 at *;generalize crashD q kp mk ct = X2 at *
   go_wp2_with fail
   refine HC1.out.mono ?_;rintro e w2 ⟨rfl, vl1, vs1, vq1, hd2, hs2⟩;have HD2 := Hi hd2;have HS2 := Hi hs2;have HDC := Hi (HDO.out w2 (Doc.beside HP1.out.doc (owns_base HP1.out.prog.at_) HP1.out.apart hs2));have HX2 := Hi ((hs2.block W.heap.size (Own.lo HX1.out) (fun o => HNX.out _ (.inl o) rfl)).trans HX1.out);clear hd2 hs2 HC1 HDO n0 n1 n2 n3 n4 n5 n6 n7 n8 n9 n10 n11 n12 n13;have n11 : w2.cell? ⟨W.heap.size, 11, none⟩ = some (.int .i64 kp) := by rw [cell_of HX2.out]; rfl
   have n12 : w2.cell? ⟨W.heap.size, 12, none⟩ = some (.int .u64 mk) := by rw [cell_of HX2.out]; rfl
   have n13 : w2.cell? ⟨W.heap.size, 13, none⟩ = some (.int .i64 ct) := by rw [cell_of HX2.out]; rfl
   go_wp2_with fail
   refine HDC.out.mono ?_;rintro e w3 ⟨rfl, vb1, vw1, hd3, hs3⟩;have HD3 := Hi hd3;have HS3 := Hi hs3;clear hd3 hs3 HDC;go_wp2;go_ret;refine ⟨rfl, vl1, vs1, vq1, vb1, vw1, ?_, HS1.out.trans (still_two (fun k hk => rowns_lt HP1.out.doc.at_ k hk) HS2.out HS3.out)⟩;rw [HA1.out, HA2.out]
   exact HP1.out.next HD2.out HS2.out HD3.out HS3.out HRL.out HTR.out HBP.out HBR.out)
 by_cases hneg : dk.tmod 11 < 0 <;> (first | rw [if_pos hneg] at hk | rw [if_neg hneg] at hk) <;> (
  have hwk : Go.RowKit.wrap64 10 = 10 := by unfold Go.RowKit.wrap64; omega
  have HA1 := Hi (act_none (nz := nzP) (d := d) HK.out);have HA2 := Hi (act_none (nz := nzR) (d := q) HK.out);go_wp2;go_ret;refine ⟨rfl, vl, vs, vq, vb, vw, ?_, HS1.out⟩;rw [HA1.out, HA2.out]
  exact HP1.out.mono (Nat.le_succ m))
end Go.Proofs.YtibmfjacfbpfgaaGreatDoor.LawDo
namespace Go.Proofs.YtibmfjacfbpfgaaGreatDoor.AwakeL
open Stab SortLaw YtibmfjacfbpfgaaGreatDoor.Item TreeLaw NameLaw NameWalk NameOrd NodeRes FillLaw DiffLaw RealLaw DoneLaw KeepLaw OpLaw OpKeep DkLaw ActLaw DStat
def pA : ByteArray := ⟨#[97]⟩
def pB : ByteArray := ⟨#[98]⟩
def pHi : ByteArray := ⟨#[104, 105]⟩
def a0 : Dk := ⟨[], [], 100, -1, 0, false, 0⟩
def a1 : Dk := (opD nzP a0 0 pA ⟨#[]⟩ (2, 0, 0, 0, 0, 0, ⟨#[]⟩)).2
def a2 : Dk := (opD nzP a1 1 pA ⟨#[]⟩ (0, 0, 0, 0, 0, 0, pHi)).2
def a3 : Dk := (opD nzP a2 3 pA pB (0, 0, 0, 0, 0, 0, ⟨#[]⟩)).2
def a4 : Dk := crashD a3 2 0 0
theorem e1 : (opD nzP a0 0 pA ⟨#[]⟩ (2, 0, 0, 0, 0, 0, ⟨#[]⟩)).1 = 0 := by decide +kernel
theorem e2 : (opD nzP a1 1 pA ⟨#[]⟩ (0, 0, 0, 0, 0, 0, pHi)).1 = 0 := by decide +kernel
theorem e3 : (opD nzP a2 3 pA pB (0, 0, 0, 0, 0, 0, ⟨#[]⟩)).1 = 0 := by decide +kernel
theorem e4 : statP a4.shows pA = ((2, 0, 0, 0, 0, 0, pHi), 0) := by decide +kernel
#print axioms e4
end Go.Proofs.YtibmfjacfbpfgaaGreatDoor.AwakeL
namespace Go.Proofs.YtibmfjacfbpfgaaGreatDoor.Awake15
open Go.RowKit YtibmfjacfbpfgaaGreatDoorW PrintWords PrintLast PrintMore NameLaw NameCmp NameWalk NameRef NameUse YtibmfjacfbpfgaaGreatDoor.Item Own NodeRes TreeLaw SortIns SortSwap FillLaw DiffLaw RealLaw DoneLaw KeepLaw RealKeep OpLaw OpKeep DkLaw DAt DSmall DState DWait RDisk ROwnA ActLaw YtibmfjacfbpfgaaGreatDoor.Act DMake DWrite DRemove DRename DMeta DSync DFlush DCrash RDo RCrash Pair LawDo Light DStat DList AwakeL DLay
theorem RAt.lower {W : World} {n n2 b : Nat} {vb vw : Value} {d : Dk} (h : RAt W n b vb vw d) (hn : n2 ≤ n) : RAt W n2 b vb vw d := ⟨h.blk, Kd.R_lower h.rb hn, Kd.R_lower h.rw hn, Nat.le_trans hn h.nb⟩
theorem right_nil : RightP [] := fun k x h => by cases h
theorem trees_nil (lim : Int) : Trees ⟨[], [], lim, -1, 0, false, 0⟩ := fun k => by
 show RightP ((([] : List Chg).take k).foldl doneP [])
 rw [List.take_nil]; exact right_nil
theorem bnd_nil (lim : Int) : Bnd 0 ⟨[], [], lim, -1, 0, false, 0⟩ := ⟨Nat.le_refl _, ⟨Int.le_refl _, Int.le_refl _⟩, (show (-1 : Int) ≤ 9223372036854775807 by decide), (show (0 : Int) ≤ 9223372036854775807 by decide), (fun x hx => by cases hx), (fun c hc => by cases hc)⟩
theorem prog_new {W0 w1 : World} (hg : Glob W0) (lim : Int) (h1 : DkAt w1 W0.heap.size W0.heap.size (.slice none 0 0) (.slice none 0 0) (.slice none 0 0) ⟨[], [], lim, -1, 0, false, 0⟩) (b1 : Below W0.heap.size W0 w1) : Prog W0 w1 W0.heap.size (.slice none 0 0) (.slice none 0 0) (.slice none 0 0) ⟨[], [], lim, -1, 0, false, 0⟩ 0 :=
 ⟨hg, b1, h1, trees_nil lim, bnd_nil lim⟩
theorem pair_new {W0 w1 w2 : World} (hg : Glob W0) (lim : Int) (h1 : DkAt w1 W0.heap.size W0.heap.size (.slice none 0 0) (.slice none 0 0) (.slice none 0 0) ⟨[], [], lim, -1, 0, false, 0⟩) (b1 : Below W0.heap.size W0 w1)
  (h2 : RAt w2 w1.heap.size w1.heap.size (.slice none 0 0) (.slice none 0 0) ⟨[], [], lim, -1, 0, false, 0⟩) (b2 : Below w1.heap.size w1 w2) : Pair W0 w2 W0.heap.size (.slice none 0 0) (.slice none 0 0) (.slice none 0 0) ⟨[], [], lim, -1, 0, false, 0⟩ w1.heap.size (.slice none 0 0) (.slice none 0 0) ⟨[], [], lim, -1, 0, false, 0⟩ 0 := by
 have hlt := h1.lt;refine ⟨Go.Proofs.YtibmfjacfbpfgaaGreatDoor.Pair.Prog.below (prog_new hg lim h1 b1) b2, ⟨below_next b1 b2, RAt.lower h2 b1.size, trees_nil lim, bnd_nil lim⟩, ⟨rfl, .nil, rfl, rfl, rfl, rfl, rfl⟩, fun k hk hr => ?_⟩
 rcases hk with e | e | e | e
 ·
  rcases hr with o | o | o
  ·
   omega
  ·
   cases o
  cases o
 ·
  cases e
 ·
  cases e
 cases e
theorem pair_low {W W0 w : World} {b c m : Nat} {vl vs vq vb vw : Value} {d q : Dk} (hb : Below W.heap.size W W0) (h : Pair W0 w b vl vs vq d c vb vw q m) : Below W.heap.size W w := below_next hb h.prog.low
theorem fit_next {n : Nat} {d : Dk} (h : FitN n d) {x : Ax} (hx : x.2.2.2.1.2.2.2.2.2.2.size ≤ n) : FitN n (actD nzP d x) := act_fit nzP_size h x hx
theorem fit_nil (n : Nat) (lim : Int) : FitN n ⟨[], [], lim, -1, 0, false, 0⟩ := ⟨(fun x hx => by cases hx), (fun c hc => by cases hc)⟩
theorem axc_one {w : World} {g t : Nat} {x : Ax} {cs : Array Value} (h : w.heap[g]? = some (.cells cs t (0, 0))) (hc : cs = (cellsX x).toArray) : AxC w (some ⟨g, 0, none⟩) [x] := by
 subst hc;refine ⟨rfl, (show 1 ≤ 9223372036854775807 by decide), fun _ => ⟨⟨g, 0, none⟩, rfl, fun j y hj => ?_⟩⟩
 cases j with
 | zero =>
  injection hj with hj
  subst hj;refine ⟨cellsX x, rfl, axK_mk _ _, fun i u hu => ?_⟩;have e : (⟨g, 0, none⟩ : Addr).add (0 * axK.sz + i) = ⟨g, i, none⟩ := by simp [Addr.add]; exact fun h => h.symm
  have h2 : w.cell? ⟨g, i, none⟩ = some u := by rw [cell_of h]; simpa using hu
  exact (congrArg w.cell? e).trans h2
 | succ j => cases hj
set_option maxRecDepth 100000 in
theorem awake_any (W : World) (hg : Glob W) : Calls Tryz.prog 8 #[] W fun e w' => e = .returned (.bool true) ∧ Below W.heap.size W w' := by
 have HG := Hi hg;have HNW := Hi (new_any 100 W);clear hg;go_enter Tryz.func8, Tryz.ntmps8
 go_wp2_with fail
 refine HNW.out.mono ?_;rintro e w1 ⟨rfl, hd1, hb1⟩;have HP : Hid (Prog W w1 W.heap.size (.slice none 0 0) (.slice none 0 0) (.slice none 0 0) a0 0) := Hi (prog_new HG.out 100 hd1 hb1);clear hd1 hb1 HNW;have HC := Hi (make_any W w1 W.heap.size _ _ _ a0 0 HP.out (by decide) pA (by decide) 2 0 0 0 0 0 ⟨#[]⟩ (by decide))
 go_wp2_with fail
 refine HC.out.mono ?_;rintro e w2 ⟨he, vl2, vs2, vq2, hd, hs⟩;rw [e1] at he;subst he;have HP2 : Hid (Prog W w2 W.heap.size vl2 vs2 vq2 a1 1) := Hi (prog_next HP.out (k := 0) (path := pA) (tp := ⟨#[]⟩) (n := (2, 0, 0, 0, 0, 0, ⟨#[]⟩)) (by decide) hd hs);clear hd hs HC HP;have HC := Hi (write_any W w2 W.heap.size _ _ _ a1 1 HP2.out (by decide) pA (by decide) pHi (by decide))
 go_wp2_with fail
 refine HC.out.mono ?_;rintro e w3 ⟨he, vl3, vs3, vq3, hd, hs⟩;rw [e2] at he;subst he;have HP3 : Hid (Prog W w3 W.heap.size vl3 vs3 vq3 a2 2) := Hi (prog_next HP2.out (k := 1) (path := pA) (tp := ⟨#[]⟩) (n := (0, 0, 0, 0, 0, 0, pHi)) (by decide) hd hs);clear hd hs HC HP2;have HC := Hi (rename_any W w3 W.heap.size _ _ _ a2 2 HP3.out (by decide) pA (by decide) pB (by decide))
 go_wp2_with fail
 refine HC.out.mono ?_;rintro e w4 ⟨he, vl4, vs4, vq4, hd, hs⟩;rw [e3] at he;subst he;have HP4 : Hid (Prog W w4 W.heap.size vl4 vs4 vq4 a3 3) := Hi (prog_next HP3.out (k := 3) (path := pA) (tp := pB) (n := (0, 0, 0, 0, 0, 0, ⟨#[]⟩)) (by decide) hd hs);clear hd hs HC HP3;have HC := Hi (crash_any W w4 W.heap.size _ _ _ a3 3 HP4.out (by decide) 2 0 0 (by decide) (by decide))
 go_wp2_with fail
 refine HC.out.mono ?_;rintro e w5 ⟨rfl, vl5, vs5, vq5, hd, hs⟩;have HP5 : Hid (Prog W w5 W.heap.size vl5 vs5 vq5 a4 3) := Hi ⟨HP4.out.glob, Still.low hs HP4.out.low (Nat.le_refl _) (owns_base HP4.out.at_), hd, crash_trees HP4.out.trees 2 0 0, crash_bnd HP4.out.bnd 2 0 0⟩;clear hd hs HC HP4;have HC := Hi (stat_any W w5 W.heap.size _ _ _ a4 3 HP5.out (by decide) pA (by decide));rw [e4] at HC
 go_wp2_with fail
 refine HC.out.mono ?_;rintro e w6 ⟨rfl, hb6⟩;have HB := Hi (below_next (below_next HP5.out.low hb6) (below_one w6 (.cells #[.int .i64 2, .int .u32 0, .int .u32 0, .int .u32 0, .int .i64 0, .int .i64 0, .string pHi] 34)));clear hb6 HC HP5;unfold pHi aggNd at *;go_wp2;go_ret;exact ⟨rfl, HB.out⟩
end Go.Proofs.YtibmfjacfbpfgaaGreatDoor.Awake15
