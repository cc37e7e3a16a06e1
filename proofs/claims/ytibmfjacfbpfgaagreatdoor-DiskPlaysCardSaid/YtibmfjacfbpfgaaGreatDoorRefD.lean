/- the document's Done. -/
import Derived.Test.YtibmfjacfbpfgaaGreatDoorTreeRef2
import Derived.Test.YtibmfjacfbpfgaaGreatDoorTreeRef
import Derived.Test.YtibmfjacfbpfgaaGreatDoorLawD
import Derived.Test.YtibmfjacfbpfgaaGreatDoorStepG
import Derived.Test.YtibmfjacfbpfgaaGreatDoorNameB
import Derived.Test.YtibmfjacfbpfgaaGreatDoorDiskB
import Derived.Test.YtibmfjacfbpfgaaGreatDoorDAt
import Derived.Test.YtibmfjacfbpfgaaGreatDoorSortX
set_option maxHeartbeats 32000000
set_option maxRecDepth 100000
set_option linter.unusedVariables false
set_option linter.unusedSimpArgs false
namespace Go.Proofs.YtibmfjacfbpfgaaGreatDoor.RDone
open Go.RowKit YtibmfjacfbpfgaaGreatDoorW PrintWords PrintLast PrintMore NameLaw NameWalk NameRef NameUse YtibmfjacfbpfgaaGreatDoor.Item Own NodeRes TreeLaw TreeRef TreeRef2 SortIns FillLaw DiffLaw RealLaw KeepLaw OpLaw
theorem rdone_put (s : List It) (A : Option Addr) (c : Nat) (pa tp : ByteArray) (kd mo ui gi mt at_ : Int) (da : ByteArray) (su : Bool) (W : World) (hC : ItemC W A s) (hs : s.length ≤ 900000) (hss : ∀ x ∈ s, x.1.size ≤ 10000) (hp : pa.size ≤ 10000) :
  Calls Tryz.prog 76 #[.slice A s.length c, .agg #[.int .i64 0, .string pa, .string tp, .int .i64 kd, .int .u32 mo, .int .u32 ui, .int .u32 gi, .int .i64 mt, .int .i64 at_, .string da, .bool su]] W fun e w' => ∃ v1, e = .returned v1 ∧ itemK.R 77 w' W.heap.size (fun _ => True) v1 (putP s (pa, kd, mo, ui, gi, mt, at_, da)) ∧ Below W.heap.size W w' := by
 have HC := Hi hC;have HSS := Hi hss;have hb1 := below_one W (.cells #[.int .i64 0, .string pa, .string tp, .int .i64 kd, .int .u32 mo, .int .u32 ui, .int .u32 gi, .int .i64 mt, .int .i64 at_, .string da, .bool su] 121);have HFD := rfind_any s A c pa (W.alloc (.cells #[.int .i64 0, .string pa, .string tp, .int .i64 kd, .int .u32 mo, .int .u32 ui, .int .u32 gi, .int .i64 mt, .int .i64 at_, .string da, .bool su] 121)) (Kd.C_below hC hb1);unfold aggN at HFD;generalize nodeOf (findP s pa) = nd at *;generalize (findP s pa).isSome = is_ at *;obtain ⟨n0, n1, n2, n3, n4, n5, n6⟩ := nd;replace HFD := Hi HFD;have HB1 := Hi hb1;have HK1 := Hi (heap_new W (.cells #[.int .i64 0, .string pa, .string tp, .int .i64 kd, .int .u32 mo, .int .u32 ui, .int .u32 gi, .int .i64 mt, .int .i64 at_, .string da, .bool su] 121));have e1 : (W.alloc (.cells #[.int .i64 0, .string pa, .string tp, .int .i64 kd, .int .u32 mo, .int .u32 ui, .int .u32 gi, .int .i64 mt, .int .i64 at_, .string da, .bool su] 121)).cell? ⟨W.heap.size, 1, none⟩ = some (.string pa) := by rw [cell_of (heap_new W _)]; rfl
 clear hC hb1 hss;go_enter Tryz.func76, Tryz.ntmps76
 go_wp2_with fail
 generalize W.alloc (.cells #[.int .i64 0, .string pa, .string tp, .int .i64 kd, .int .u32 mo, .int .u32 ui, .int .u32 gi, .int .i64 mt, .int .i64 at_, .string da, .bool su] 121) = W1 at *;obtain ⟨bc, hbc⟩ : ∃ bc, bc = W.heap.size := ⟨_, rfl⟩;rw [← hbc] at HK1 e1 ⊢;have hbc2 : W.heap.size ≤ bc := by omega
 have HBC := Hi hbc;clear hbc;refine HFD.out.mono ?_;rintro e W2 ⟨rfl, hb2⟩;have HB2 := Hi (below_next HB1.out hb2);have HK2 := Hi (Own.kp hb2 HK1.out);have hbc3 : bc < W2.heap.size := (Own.lo HK2.out);clear hb2 HFD HB1 HK1 e1;have hb3 := below_one W2 (.cells #[.int .i64 n0, .int .u32 n1, .int .u32 n2, .int .u32 n3, .int .i64 n4, .int .i64 n5, .string n6] 34);have HB3 := Hi (below_next HB2.out hb3);have HK3 := Hi ((hb3.block bc hbc3).trans HK2.out);have HN3 := Hi (heap_new W2 (.cells #[.int .i64 n0, .int .u32 n1, .int .u32 n2, .int .u32 n3, .int .i64 n4, .int .i64 n5, .string n6] 34));clear hb3;obtain ⟨k0, k1, k2, k3, k4, k5, k6, k7, k8, k9, k10⟩ := Own.cs11 HK3.out;obtain ⟨m0, m1, m2, m3, m4, m5, m6⟩ := Own.cs7 HN3.out;have HP := Hi (rput_any s A c pa kd mo ui gi mt at_ da (W2.alloc (.cells #[.int .i64 n0, .int .u32 n1, .int .u32 n2, .int .u32 n3, .int .i64 n4, .int .i64 n5, .string n6] 34)) (Kd.C_below HC.out HB3.out) (by omega) HSS.out (by omega))
 go_wp2_with fail
 refine HP.out.mono ?_;rintro e w8 ⟨v1, rfl, hr8, hb8⟩;have HF := Hi (And.intro (show itemK.R 77 w8 W.heap.size (fun _ => True) v1 (putP s (pa, kd, mo, ui, gi, mt, at_, da)) from Kd.R_lower hr8 HB3.out.size) (below_next HB3.out hb8));clear hr8 hb8;clear HP;go_wp2;go_ret;exact ⟨v1, rfl, HF.out.1, HF.out.2⟩
theorem rdone_none (s : List It) (A : Option Addr) (c : Nat) (pa tp : ByteArray) (kd mo ui gi mt at_ : Int) (da : ByteArray) (su : Bool) (W : World) (hC : ItemC W A s) (hs : s.length ≤ 900000) (hss : ∀ x ∈ s, x.1.size ≤ 10000) (hp : pa.size ≤ 10000) (k : Int) (hk : k ≠ 0) (hf : findP s pa = none) :
  Calls Tryz.prog 76 #[.slice A s.length c, .agg #[.int .i64 k, .string pa, .string tp, .int .i64 kd, .int .u32 mo, .int .u32 ui, .int .u32 gi, .int .i64 mt, .int .i64 at_, .string da, .bool su]] W fun e w' => e = .returned (.slice A s.length c) ∧ Below W.heap.size W w' := by
 have q0 : (k == 0) = false := beq_eq_false_iff_ne.2 hk;clear hk;have HC := Hi hC;have HSS := Hi hss;have hb1 := below_one W (.cells #[.int .i64 k, .string pa, .string tp, .int .i64 kd, .int .u32 mo, .int .u32 ui, .int .u32 gi, .int .i64 mt, .int .i64 at_, .string da, .bool su] 121);have HFD := rfind_any s A c pa (W.alloc (.cells #[.int .i64 k, .string pa, .string tp, .int .i64 kd, .int .u32 mo, .int .u32 ui, .int .u32 gi, .int .i64 mt, .int .i64 at_, .string da, .bool su] 121)) (Kd.C_below hC hb1);unfold aggN at HFD;rw [hf] at HFD;have hz : nodeOf (none : Option It) = (0, 0, 0, 0, 0, 0, ByteArray.empty) := rfl;rw [hz] at HFD;simp only [Option.isSome_none] at HFD;clear hf hz;replace HFD := Hi HFD;have HB1 := Hi hb1;have HK1 := Hi (heap_new W (.cells #[.int .i64 k, .string pa, .string tp, .int .i64 kd, .int .u32 mo, .int .u32 ui, .int .u32 gi, .int .i64 mt, .int .i64 at_, .string da, .bool su] 121));have e1 : (W.alloc (.cells #[.int .i64 k, .string pa, .string tp, .int .i64 kd, .int .u32 mo, .int .u32 ui, .int .u32 gi, .int .i64 mt, .int .i64 at_, .string da, .bool su] 121)).cell? ⟨W.heap.size, 1, none⟩ = some (.string pa) := by rw [cell_of (heap_new W _)]; rfl
 clear hC hb1 hss;go_enter Tryz.func76, Tryz.ntmps76
 go_wp2_with fail
 generalize W.alloc (.cells #[.int .i64 k, .string pa, .string tp, .int .i64 kd, .int .u32 mo, .int .u32 ui, .int .u32 gi, .int .i64 mt, .int .i64 at_, .string da, .bool su] 121) = W1 at *;obtain ⟨bc, hbc⟩ : ∃ bc, bc = W.heap.size := ⟨_, rfl⟩;rw [← hbc] at HK1 e1 ⊢;have hbc2 : W.heap.size ≤ bc := by omega
 have HBC := Hi hbc;clear hbc;refine HFD.out.mono ?_;rintro e W2 ⟨rfl, hb2⟩;have HB2 := Hi (below_next HB1.out hb2);have HK2 := Hi (Own.kp hb2 HK1.out);have hbc3 : bc < W2.heap.size := (Own.lo HK2.out);clear hb2 HFD HB1 HK1 e1;have hb3 := below_one W2 (.cells #[.int .i64 0, .int .u32 0, .int .u32 0, .int .u32 0, .int .i64 0, .int .i64 0, .string ByteArray.empty] 34);have HB3 := Hi (below_next HB2.out hb3);have HK3 := Hi ((hb3.block bc hbc3).trans HK2.out);have HN3 := Hi (heap_new W2 (.cells #[.int .i64 0, .int .u32 0, .int .u32 0, .int .u32 0, .int .i64 0, .int .i64 0, .string ByteArray.empty] 34));clear hb3;obtain ⟨k0, k1, k2, k3, k4, k5, k6, k7, k8, k9, k10⟩ := Own.cs11 HK3.out;obtain ⟨m0, m1, m2, m3, m4, m5, m6⟩ := Own.cs7 HN3.out;go_wp2;go_ret;exact ⟨rfl, HB3.out⟩
theorem rdone_gone (s : List It) (A : Option Addr) (c : Nat) (pa tp : ByteArray) (kd mo ui gi mt at_ : Int) (da : ByteArray) (su : Bool) (W : World) (hC : ItemC W A s) (hs : s.length ≤ 900000) (hss : ∀ x ∈ s, x.1.size ≤ 10000) (hp : pa.size ≤ 10000) (hf : ∃ x, findP s pa = some x) :
  Calls Tryz.prog 76 #[.slice A s.length c, .agg #[.int .i64 2, .string pa, .string tp, .int .i64 kd, .int .u32 mo, .int .u32 ui, .int .u32 gi, .int .i64 mt, .int .i64 at_, .string da, .bool su]] W fun e w' => ∃ v1, e = .returned v1 ∧ itemK.R 77 w' W.heap.size (fun _ => True) v1 (doneP s (2, pa, tp, (kd, mo, ui, gi, mt, at_, da), su)) ∧ Below W.heap.size W w' := by
 have HC := Hi hC;have HSS := Hi hss;have hb1 := below_one W (.cells #[.int .i64 2, .string pa, .string tp, .int .i64 kd, .int .u32 mo, .int .u32 ui, .int .u32 gi, .int .i64 mt, .int .i64 at_, .string da, .bool su] 121);have HFD := rfind_any s A c pa (W.alloc (.cells #[.int .i64 2, .string pa, .string tp, .int .i64 kd, .int .u32 mo, .int .u32 ui, .int .u32 gi, .int .i64 mt, .int .i64 at_, .string da, .bool su] 121)) (Kd.C_below hC hb1);unfold aggN at HFD;obtain ⟨x, hx⟩ : ∃ x, findP s pa = some x := hf;have hxp := (find_mem hx).2;have hdn : ∀ ch : Chg, ch.1 ≠ 0 → ch.2.1 = pa → doneP s ch = (if ch.1 = 1 then putP s (x.1, x.2.1, x.2.2.1, x.2.2.2.1, x.2.2.2.2.1, x.2.2.2.2.2.1, x.2.2.2.2.2.2.1, ch.2.2.2.1.2.2.2.2.2.2) else if ch.1 = 2 then woP s ch.2.1 else if ch.1 = 3 then putP (woP s ch.2.1) (ch.2.2.1, x.2) else putP s (x.1, x.2.1, ch.2.2.2.1.2.1, ch.2.2.2.1.2.2.1, ch.2.2.2.1.2.2.2.1, ch.2.2.2.1.2.2.2.2.1, ch.2.2.2.1.2.2.2.2.2.1, x.2.2.2.2.2.2.2)) := fun ch h1 h2 => by unfold doneP; rw [if_neg h1, h2]; simp only [hx]
 have hno : nodeOf (findP s pa) = x.2 := by rw [hx]; rfl
 rw [hno, hx] at HFD;obtain ⟨px, n0, n1, n2, n3, n4, n5, n6⟩ := x;simp only [Option.isSome_some] at HFD;obtain rfl : pa = px := hxp.symm;clear hno hx hxp;replace HFD := Hi HFD;have HB1 := Hi hb1;have HK1 := Hi (heap_new W (.cells #[.int .i64 2, .string pa, .string tp, .int .i64 kd, .int .u32 mo, .int .u32 ui, .int .u32 gi, .int .i64 mt, .int .i64 at_, .string da, .bool su] 121));have e1 : (W.alloc (.cells #[.int .i64 2, .string pa, .string tp, .int .i64 kd, .int .u32 mo, .int .u32 ui, .int .u32 gi, .int .i64 mt, .int .i64 at_, .string da, .bool su] 121)).cell? ⟨W.heap.size, 1, none⟩ = some (.string pa) := by rw [cell_of (heap_new W _)]; rfl
 clear hC hb1 hss;go_enter Tryz.func76, Tryz.ntmps76
 go_wp2_with fail
 generalize W.alloc (.cells #[.int .i64 2, .string pa, .string tp, .int .i64 kd, .int .u32 mo, .int .u32 ui, .int .u32 gi, .int .i64 mt, .int .i64 at_, .string da, .bool su] 121) = W1 at *;obtain ⟨bc, hbc⟩ : ∃ bc, bc = W.heap.size := ⟨_, rfl⟩;rw [← hbc] at HK1 e1 ⊢;have hbc2 : W.heap.size ≤ bc := by omega
 have HBC := Hi hbc;clear hbc;refine HFD.out.mono ?_;rintro e W2 ⟨rfl, hb2⟩;have HB2 := Hi (below_next HB1.out hb2);have HK2 := Hi (Own.kp hb2 HK1.out);have hbc3 : bc < W2.heap.size := (Own.lo HK2.out);clear hb2 HFD HB1 HK1 e1;have hb3 := below_one W2 (.cells #[.int .i64 n0, .int .u32 n1, .int .u32 n2, .int .u32 n3, .int .i64 n4, .int .i64 n5, .string n6] 34);have HB3 := Hi (below_next HB2.out hb3);have HK3 := Hi ((hb3.block bc hbc3).trans HK2.out);have HN3 := Hi (heap_new W2 (.cells #[.int .i64 n0, .int .u32 n1, .int .u32 n2, .int .u32 n3, .int .i64 n4, .int .i64 n5, .string n6] 34));clear hb3;obtain ⟨k0, k1, k2, k3, k4, k5, k6, k7, k8, k9, k10⟩ := Own.cs11 HK3.out;obtain ⟨m0, m1, m2, m3, m4, m5, m6⟩ := Own.cs7 HN3.out;have hres := hdn (2, pa, tp, (kd, mo, ui, gi, mt, at_, da), su) (show (2 : Int) ≠ 0 by decide) rfl;rw [if_neg (show ¬ (2 : Int) = 1 by decide), if_pos rfl] at hres;have HRS := Hi hres;clear hres hdn;have HP := Hi (without_any s A c pa (W2.alloc (.cells #[.int .i64 n0, .int .u32 n1, .int .u32 n2, .int .u32 n3, .int .i64 n4, .int .i64 n5, .string n6] 34)) (Kd.C_below HC.out HB3.out) (by omega))
 go_wp2_with fail
 refine HP.out.mono ?_;rintro e w8 ⟨v1, rfl, hr8, hb8⟩;have HF := Hi (And.intro (show itemK.R 77 w8 W.heap.size (fun _ => True) v1 (doneP s (2, pa, tp, (kd, mo, ui, gi, mt, at_, da), su)) from by rw [HRS.out]; exact Kd.R_lower hr8 HB3.out.size) (below_next HB3.out hb8));clear hr8 hb8;clear HP;go_wp2;go_ret;exact ⟨v1, rfl, HF.out.1, HF.out.2⟩
theorem rdone_fill (s : List It) (A : Option Addr) (c : Nat) (pa tp : ByteArray) (kd mo ui gi mt at_ : Int) (da : ByteArray) (su : Bool) (W : World) (hC : ItemC W A s) (hs : s.length ≤ 900000) (hss : ∀ x ∈ s, x.1.size ≤ 10000) (hp : pa.size ≤ 10000) (hf : ∃ x, findP s pa = some x) :
  Calls Tryz.prog 76 #[.slice A s.length c, .agg #[.int .i64 1, .string pa, .string tp, .int .i64 kd, .int .u32 mo, .int .u32 ui, .int .u32 gi, .int .i64 mt, .int .i64 at_, .string da, .bool su]] W fun e w' => ∃ v1, e = .returned v1 ∧ itemK.R 77 w' W.heap.size (fun _ => True) v1 (doneP s (1, pa, tp, (kd, mo, ui, gi, mt, at_, da), su)) ∧ Below W.heap.size W w' := by
 have HC := Hi hC;have HSS := Hi hss;have hb1 := below_one W (.cells #[.int .i64 1, .string pa, .string tp, .int .i64 kd, .int .u32 mo, .int .u32 ui, .int .u32 gi, .int .i64 mt, .int .i64 at_, .string da, .bool su] 121);have HFD := rfind_any s A c pa (W.alloc (.cells #[.int .i64 1, .string pa, .string tp, .int .i64 kd, .int .u32 mo, .int .u32 ui, .int .u32 gi, .int .i64 mt, .int .i64 at_, .string da, .bool su] 121)) (Kd.C_below hC hb1);unfold aggN at HFD;obtain ⟨x, hx⟩ : ∃ x, findP s pa = some x := hf;have hxp := (find_mem hx).2;have hdn : ∀ ch : Chg, ch.1 ≠ 0 → ch.2.1 = pa → doneP s ch = (if ch.1 = 1 then putP s (x.1, x.2.1, x.2.2.1, x.2.2.2.1, x.2.2.2.2.1, x.2.2.2.2.2.1, x.2.2.2.2.2.2.1, ch.2.2.2.1.2.2.2.2.2.2) else if ch.1 = 2 then woP s ch.2.1 else if ch.1 = 3 then putP (woP s ch.2.1) (ch.2.2.1, x.2) else putP s (x.1, x.2.1, ch.2.2.2.1.2.1, ch.2.2.2.1.2.2.1, ch.2.2.2.1.2.2.2.1, ch.2.2.2.1.2.2.2.2.1, ch.2.2.2.1.2.2.2.2.2.1, x.2.2.2.2.2.2.2)) := fun ch h1 h2 => by unfold doneP; rw [if_neg h1, h2]; simp only [hx]
 have hno : nodeOf (findP s pa) = x.2 := by rw [hx]; rfl
 rw [hno, hx] at HFD;obtain ⟨px, n0, n1, n2, n3, n4, n5, n6⟩ := x;simp only [Option.isSome_some] at HFD;obtain rfl : pa = px := hxp.symm;clear hno hx hxp;replace HFD := Hi HFD;have HB1 := Hi hb1;have HK1 := Hi (heap_new W (.cells #[.int .i64 1, .string pa, .string tp, .int .i64 kd, .int .u32 mo, .int .u32 ui, .int .u32 gi, .int .i64 mt, .int .i64 at_, .string da, .bool su] 121));have e1 : (W.alloc (.cells #[.int .i64 1, .string pa, .string tp, .int .i64 kd, .int .u32 mo, .int .u32 ui, .int .u32 gi, .int .i64 mt, .int .i64 at_, .string da, .bool su] 121)).cell? ⟨W.heap.size, 1, none⟩ = some (.string pa) := by rw [cell_of (heap_new W _)]; rfl
 clear hC hb1 hss;go_enter Tryz.func76, Tryz.ntmps76
 go_wp2_with fail
 generalize W.alloc (.cells #[.int .i64 1, .string pa, .string tp, .int .i64 kd, .int .u32 mo, .int .u32 ui, .int .u32 gi, .int .i64 mt, .int .i64 at_, .string da, .bool su] 121) = W1 at *;obtain ⟨bc, hbc⟩ : ∃ bc, bc = W.heap.size := ⟨_, rfl⟩;rw [← hbc] at HK1 e1 ⊢;have hbc2 : W.heap.size ≤ bc := by omega
 have HBC := Hi hbc;clear hbc;refine HFD.out.mono ?_;rintro e W2 ⟨rfl, hb2⟩;have HB2 := Hi (below_next HB1.out hb2);have HK2 := Hi (Own.kp hb2 HK1.out);have hbc3 : bc < W2.heap.size := (Own.lo HK2.out);clear hb2 HFD HB1 HK1 e1;have hb3 := below_one W2 (.cells #[.int .i64 n0, .int .u32 n1, .int .u32 n2, .int .u32 n3, .int .i64 n4, .int .i64 n5, .string n6] 34);have HB3 := Hi (below_next HB2.out hb3);have HK3 := Hi ((hb3.block bc hbc3).trans HK2.out);have HN3 := Hi (heap_new W2 (.cells #[.int .i64 n0, .int .u32 n1, .int .u32 n2, .int .u32 n3, .int .i64 n4, .int .i64 n5, .string n6] 34));clear hb3;obtain ⟨k0, k1, k2, k3, k4, k5, k6, k7, k8, k9, k10⟩ := Own.cs11 HK3.out;obtain ⟨m0, m1, m2, m3, m4, m5, m6⟩ := Own.cs7 HN3.out;have hres := hdn (1, pa, tp, (kd, mo, ui, gi, mt, at_, da), su) (show (1 : Int) ≠ 0 by decide) rfl;rw [if_pos rfl] at hres;have HRS := Hi hres;clear hres hdn;have z6 := frozen_of HN3.out 6;have hb4 := below_one W2 (.cells #[.int .i64 n0, .int .u32 n1, .int .u32 n2, .int .u32 n3, .int .i64 n4, .int .i64 n5, .string da] 34);have HN4 := Hi (heap_new W2 (.cells #[.int .i64 n0, .int .u32 n1, .int .u32 n2, .int .u32 n3, .int .i64 n4, .int .i64 n5, .string da] 34));have HK4 := Hi ((hb4.block bc hbc3).trans HK2.out);have HB4 := Hi (below_next HB2.out hb4);clear hb4;obtain ⟨q0, q1, q2, q3, q4, q5, q6, q7, q8, q9, q10⟩ := Own.cs11 HK4.out;obtain ⟨r0, r1, r2, r3, r4, r5, r6⟩ := Own.cs7 HN4.out;have HP := Hi (rput_any s A c pa n0 n1 n2 n3 n4 n5 da (W2.alloc (.cells #[.int .i64 n0, .int .u32 n1, .int .u32 n2, .int .u32 n3, .int .i64 n4, .int .i64 n5, .string da] 34)) (Kd.C_below HC.out HB4.out) (by omega) HSS.out (by omega))
 go_wp2_with fail
 refine HP.out.mono ?_;rintro e w8 ⟨v1, rfl, hr8, hb8⟩;have HF := Hi (And.intro (show itemK.R 77 w8 W.heap.size (fun _ => True) v1 (doneP s (1, pa, tp, (kd, mo, ui, gi, mt, at_, da), su)) from by rw [HRS.out]; exact Kd.R_lower hr8 HB4.out.size) (below_next HB4.out hb8));clear hr8 hb8;clear HP;go_wp2;go_ret;exact ⟨v1, rfl, HF.out.1, HF.out.2⟩
theorem rdone_meta (s : List It) (A : Option Addr) (c : Nat) (pa tp : ByteArray) (kd mo ui gi mt at_ : Int) (da : ByteArray) (su : Bool) (W : World) (hC : ItemC W A s) (hs : s.length ≤ 900000) (hss : ∀ x ∈ s, x.1.size ≤ 10000) (hp : pa.size ≤ 10000) (hf : ∃ x, findP s pa = some x) :
  Calls Tryz.prog 76 #[.slice A s.length c, .agg #[.int .i64 4, .string pa, .string tp, .int .i64 kd, .int .u32 mo, .int .u32 ui, .int .u32 gi, .int .i64 mt, .int .i64 at_, .string da, .bool su]] W fun e w' => ∃ v1, e = .returned v1 ∧ itemK.R 77 w' W.heap.size (fun _ => True) v1 (doneP s (4, pa, tp, (kd, mo, ui, gi, mt, at_, da), su)) ∧ Below W.heap.size W w' := by
 have HC := Hi hC;have HSS := Hi hss;have hb1 := below_one W (.cells #[.int .i64 4, .string pa, .string tp, .int .i64 kd, .int .u32 mo, .int .u32 ui, .int .u32 gi, .int .i64 mt, .int .i64 at_, .string da, .bool su] 121);have HFD := rfind_any s A c pa (W.alloc (.cells #[.int .i64 4, .string pa, .string tp, .int .i64 kd, .int .u32 mo, .int .u32 ui, .int .u32 gi, .int .i64 mt, .int .i64 at_, .string da, .bool su] 121)) (Kd.C_below hC hb1);unfold aggN at HFD;obtain ⟨x, hx⟩ : ∃ x, findP s pa = some x := hf;have hxp := (find_mem hx).2;have hdn : ∀ ch : Chg, ch.1 ≠ 0 → ch.2.1 = pa → doneP s ch = (if ch.1 = 1 then putP s (x.1, x.2.1, x.2.2.1, x.2.2.2.1, x.2.2.2.2.1, x.2.2.2.2.2.1, x.2.2.2.2.2.2.1, ch.2.2.2.1.2.2.2.2.2.2) else if ch.1 = 2 then woP s ch.2.1 else if ch.1 = 3 then putP (woP s ch.2.1) (ch.2.2.1, x.2) else putP s (x.1, x.2.1, ch.2.2.2.1.2.1, ch.2.2.2.1.2.2.1, ch.2.2.2.1.2.2.2.1, ch.2.2.2.1.2.2.2.2.1, ch.2.2.2.1.2.2.2.2.2.1, x.2.2.2.2.2.2.2)) := fun ch h1 h2 => by unfold doneP; rw [if_neg h1, h2]; simp only [hx]
 have hno : nodeOf (findP s pa) = x.2 := by rw [hx]; rfl
 rw [hno, hx] at HFD;obtain ⟨px, n0, n1, n2, n3, n4, n5, n6⟩ := x;simp only [Option.isSome_some] at HFD;obtain rfl : pa = px := hxp.symm;clear hno hx hxp;replace HFD := Hi HFD;have HB1 := Hi hb1;have HK1 := Hi (heap_new W (.cells #[.int .i64 4, .string pa, .string tp, .int .i64 kd, .int .u32 mo, .int .u32 ui, .int .u32 gi, .int .i64 mt, .int .i64 at_, .string da, .bool su] 121));have e1 : (W.alloc (.cells #[.int .i64 4, .string pa, .string tp, .int .i64 kd, .int .u32 mo, .int .u32 ui, .int .u32 gi, .int .i64 mt, .int .i64 at_, .string da, .bool su] 121)).cell? ⟨W.heap.size, 1, none⟩ = some (.string pa) := by rw [cell_of (heap_new W _)]; rfl
 clear hC hb1 hss;go_enter Tryz.func76, Tryz.ntmps76
 go_wp2_with fail
 generalize W.alloc (.cells #[.int .i64 4, .string pa, .string tp, .int .i64 kd, .int .u32 mo, .int .u32 ui, .int .u32 gi, .int .i64 mt, .int .i64 at_, .string da, .bool su] 121) = W1 at *;obtain ⟨bc, hbc⟩ : ∃ bc, bc = W.heap.size := ⟨_, rfl⟩;rw [← hbc] at HK1 e1 ⊢;have hbc2 : W.heap.size ≤ bc := by omega
 have HBC := Hi hbc;clear hbc;refine HFD.out.mono ?_;rintro e W2 ⟨rfl, hb2⟩;have HB2 := Hi (below_next HB1.out hb2);have HK2 := Hi (Own.kp hb2 HK1.out);have hbc3 : bc < W2.heap.size := (Own.lo HK2.out);clear hb2 HFD HB1 HK1 e1;have hb3 := below_one W2 (.cells #[.int .i64 n0, .int .u32 n1, .int .u32 n2, .int .u32 n3, .int .i64 n4, .int .i64 n5, .string n6] 34);have HB3 := Hi (below_next HB2.out hb3);have HK3 := Hi ((hb3.block bc hbc3).trans HK2.out);have HN3 := Hi (heap_new W2 (.cells #[.int .i64 n0, .int .u32 n1, .int .u32 n2, .int .u32 n3, .int .i64 n4, .int .i64 n5, .string n6] 34));clear hb3;obtain ⟨k0, k1, k2, k3, k4, k5, k6, k7, k8, k9, k10⟩ := Own.cs11 HK3.out;obtain ⟨m0, m1, m2, m3, m4, m5, m6⟩ := Own.cs7 HN3.out;have hres := hdn (4, pa, tp, (kd, mo, ui, gi, mt, at_, da), su) (show (4 : Int) ≠ 0 by decide) rfl;rw [if_neg (show ¬ (4 : Int) = 1 by decide), if_neg (show ¬ (4 : Int) = 2 by decide), if_neg (show ¬ (4 : Int) = 3 by decide)] at hres;have HRS := Hi hres;clear hres hdn;have z1 := frozen_of HN3.out 1;have hb4 := below_one W2 (.cells #[.int .i64 n0, .int .u32 mo, .int .u32 n2, .int .u32 n3, .int .i64 n4, .int .i64 n5, .string n6] 34);have HN4 := Hi (heap_new W2 (.cells #[.int .i64 n0, .int .u32 mo, .int .u32 n2, .int .u32 n3, .int .i64 n4, .int .i64 n5, .string n6] 34));have HK4 := Hi ((hb4.block bc hbc3).trans HK2.out);have HB4 := Hi (below_next HB2.out hb4);clear hb4;obtain ⟨k0_0, k0_1, k0_2, k0_3, k0_4, k0_5, k0_6, k0_7, k0_8, k0_9, k0_10⟩ := Own.cs11 HK4.out;have m0_2 : (W2.alloc (.cells #[.int .i64 n0, .int .u32 mo, .int .u32 n2, .int .u32 n3, .int .i64 n4, .int .i64 n5, .string n6] 34)).cell? ⟨W2.heap.size, 2, none⟩ = some (.int .u32 n2) := by rw [cell_of HN4.out]; rfl
 have z2 := frozen_of HN4.out 2;have hb5 := below_one W2 (.cells #[.int .i64 n0, .int .u32 mo, .int .u32 ui, .int .u32 n3, .int .i64 n4, .int .i64 n5, .string n6] 34);have HN5 := Hi (heap_new W2 (.cells #[.int .i64 n0, .int .u32 mo, .int .u32 ui, .int .u32 n3, .int .i64 n4, .int .i64 n5, .string n6] 34));have HK5 := Hi ((hb5.block bc hbc3).trans HK2.out);have HB5 := Hi (below_next HB2.out hb5);clear hb5;obtain ⟨k1_0, k1_1, k1_2, k1_3, k1_4, k1_5, k1_6, k1_7, k1_8, k1_9, k1_10⟩ := Own.cs11 HK5.out;have m1_3 : (W2.alloc (.cells #[.int .i64 n0, .int .u32 mo, .int .u32 ui, .int .u32 n3, .int .i64 n4, .int .i64 n5, .string n6] 34)).cell? ⟨W2.heap.size, 3, none⟩ = some (.int .u32 n3) := by rw [cell_of HN5.out]; rfl
 have z3 := frozen_of HN5.out 3;have hb6 := below_one W2 (.cells #[.int .i64 n0, .int .u32 mo, .int .u32 ui, .int .u32 gi, .int .i64 n4, .int .i64 n5, .string n6] 34);have HN6 := Hi (heap_new W2 (.cells #[.int .i64 n0, .int .u32 mo, .int .u32 ui, .int .u32 gi, .int .i64 n4, .int .i64 n5, .string n6] 34));have HK6 := Hi ((hb6.block bc hbc3).trans HK2.out);have HB6 := Hi (below_next HB2.out hb6);clear hb6;obtain ⟨k2_0, k2_1, k2_2, k2_3, k2_4, k2_5, k2_6, k2_7, k2_8, k2_9, k2_10⟩ := Own.cs11 HK6.out;have m2_4 : (W2.alloc (.cells #[.int .i64 n0, .int .u32 mo, .int .u32 ui, .int .u32 gi, .int .i64 n4, .int .i64 n5, .string n6] 34)).cell? ⟨W2.heap.size, 4, none⟩ = some (.int .i64 n4) := by rw [cell_of HN6.out]; rfl
 have z4 := frozen_of HN6.out 4;have hb7 := below_one W2 (.cells #[.int .i64 n0, .int .u32 mo, .int .u32 ui, .int .u32 gi, .int .i64 mt, .int .i64 n5, .string n6] 34);have HN7 := Hi (heap_new W2 (.cells #[.int .i64 n0, .int .u32 mo, .int .u32 ui, .int .u32 gi, .int .i64 mt, .int .i64 n5, .string n6] 34));have HK7 := Hi ((hb7.block bc hbc3).trans HK2.out);have HB7 := Hi (below_next HB2.out hb7);clear hb7;obtain ⟨k3_0, k3_1, k3_2, k3_3, k3_4, k3_5, k3_6, k3_7, k3_8, k3_9, k3_10⟩ := Own.cs11 HK7.out;have m3_5 : (W2.alloc (.cells #[.int .i64 n0, .int .u32 mo, .int .u32 ui, .int .u32 gi, .int .i64 mt, .int .i64 n5, .string n6] 34)).cell? ⟨W2.heap.size, 5, none⟩ = some (.int .i64 n5) := by rw [cell_of HN7.out]; rfl
 have z5 := frozen_of HN7.out 5;have hb8 := below_one W2 (.cells #[.int .i64 n0, .int .u32 mo, .int .u32 ui, .int .u32 gi, .int .i64 mt, .int .i64 at_, .string n6] 34);have HN8 := Hi (heap_new W2 (.cells #[.int .i64 n0, .int .u32 mo, .int .u32 ui, .int .u32 gi, .int .i64 mt, .int .i64 at_, .string n6] 34));have HK8 := Hi ((hb8.block bc hbc3).trans HK2.out);have HB8 := Hi (below_next HB2.out hb8);clear hb8;obtain ⟨q0, q1, q2, q3, q4, q5, q6, q7, q8, q9, q10⟩ := Own.cs11 HK8.out;obtain ⟨r0, r1, r2, r3, r4, r5, r6⟩ := Own.cs7 HN8.out;have HP := Hi (rput_any s A c pa n0 mo ui gi mt at_ n6 (W2.alloc (.cells #[.int .i64 n0, .int .u32 mo, .int .u32 ui, .int .u32 gi, .int .i64 mt, .int .i64 at_, .string n6] 34)) (Kd.C_below HC.out HB8.out) (by omega) HSS.out (by omega))
 go_wp2_with fail
 refine HP.out.mono ?_;rintro e w8 ⟨v1, rfl, hr8, hb8⟩;have HF := Hi (And.intro (show itemK.R 77 w8 W.heap.size (fun _ => True) v1 (doneP s (4, pa, tp, (kd, mo, ui, gi, mt, at_, da), su)) from by rw [HRS.out]; exact Kd.R_lower hr8 HB8.out.size) (below_next HB8.out hb8));clear hr8 hb8;clear HP;go_wp2;go_ret;exact ⟨v1, rfl, HF.out.1, HF.out.2⟩
theorem rdone_move (s : List It) (A : Option Addr) (c : Nat) (pa tp : ByteArray) (kd mo ui gi mt at_ : Int) (da : ByteArray) (su : Bool) (W : World) (hC : ItemC W A s) (hs : s.length ≤ 900000) (hss : ∀ x ∈ s, x.1.size ≤ 10000) (hp : pa.size ≤ 10000) (hf : ∃ x, findP s pa = some x) (hp2 : tp.size ≤ 10000) :
  Calls Tryz.prog 76 #[.slice A s.length c, .agg #[.int .i64 3, .string pa, .string tp, .int .i64 kd, .int .u32 mo, .int .u32 ui, .int .u32 gi, .int .i64 mt, .int .i64 at_, .string da, .bool su]] W fun e w' => ∃ v1, e = .returned v1 ∧ itemK.R 77 w' W.heap.size (fun _ => True) v1 (doneP s (3, pa, tp, (kd, mo, ui, gi, mt, at_, da), su)) ∧ Below W.heap.size W w' := by
 have HC := Hi hC;have HSS := Hi hss;have hb1 := below_one W (.cells #[.int .i64 3, .string pa, .string tp, .int .i64 kd, .int .u32 mo, .int .u32 ui, .int .u32 gi, .int .i64 mt, .int .i64 at_, .string da, .bool su] 121);have HFD := rfind_any s A c pa (W.alloc (.cells #[.int .i64 3, .string pa, .string tp, .int .i64 kd, .int .u32 mo, .int .u32 ui, .int .u32 gi, .int .i64 mt, .int .i64 at_, .string da, .bool su] 121)) (Kd.C_below hC hb1);unfold aggN at HFD;obtain ⟨x, hx⟩ : ∃ x, findP s pa = some x := hf;have hxp := (find_mem hx).2;have hdn : ∀ ch : Chg, ch.1 ≠ 0 → ch.2.1 = pa → doneP s ch = (if ch.1 = 1 then putP s (x.1, x.2.1, x.2.2.1, x.2.2.2.1, x.2.2.2.2.1, x.2.2.2.2.2.1, x.2.2.2.2.2.2.1, ch.2.2.2.1.2.2.2.2.2.2) else if ch.1 = 2 then woP s ch.2.1 else if ch.1 = 3 then putP (woP s ch.2.1) (ch.2.2.1, x.2) else putP s (x.1, x.2.1, ch.2.2.2.1.2.1, ch.2.2.2.1.2.2.1, ch.2.2.2.1.2.2.2.1, ch.2.2.2.1.2.2.2.2.1, ch.2.2.2.1.2.2.2.2.2.1, x.2.2.2.2.2.2.2)) := fun ch h1 h2 => by unfold doneP; rw [if_neg h1, h2]; simp only [hx]
 have hno : nodeOf (findP s pa) = x.2 := by rw [hx]; rfl
 rw [hno, hx] at HFD;obtain ⟨px, n0, n1, n2, n3, n4, n5, n6⟩ := x;simp only [Option.isSome_some] at HFD;obtain rfl : pa = px := hxp.symm;clear hno hx hxp;replace HFD := Hi HFD;have HB1 := Hi hb1;have HK1 := Hi (heap_new W (.cells #[.int .i64 3, .string pa, .string tp, .int .i64 kd, .int .u32 mo, .int .u32 ui, .int .u32 gi, .int .i64 mt, .int .i64 at_, .string da, .bool su] 121));have e1 : (W.alloc (.cells #[.int .i64 3, .string pa, .string tp, .int .i64 kd, .int .u32 mo, .int .u32 ui, .int .u32 gi, .int .i64 mt, .int .i64 at_, .string da, .bool su] 121)).cell? ⟨W.heap.size, 1, none⟩ = some (.string pa) := by rw [cell_of (heap_new W _)]; rfl
 clear hC hb1 hss;go_enter Tryz.func76, Tryz.ntmps76
 go_wp2_with fail
 generalize W.alloc (.cells #[.int .i64 3, .string pa, .string tp, .int .i64 kd, .int .u32 mo, .int .u32 ui, .int .u32 gi, .int .i64 mt, .int .i64 at_, .string da, .bool su] 121) = W1 at *;obtain ⟨bc, hbc⟩ : ∃ bc, bc = W.heap.size := ⟨_, rfl⟩;rw [← hbc] at HK1 e1 ⊢;have hbc2 : W.heap.size ≤ bc := by omega
 have HBC := Hi hbc;clear hbc;refine HFD.out.mono ?_;rintro e W2 ⟨rfl, hb2⟩;have HB2 := Hi (below_next HB1.out hb2);have HK2 := Hi (Own.kp hb2 HK1.out);have hbc3 : bc < W2.heap.size := (Own.lo HK2.out);clear hb2 HFD HB1 HK1 e1;have hb3 := below_one W2 (.cells #[.int .i64 n0, .int .u32 n1, .int .u32 n2, .int .u32 n3, .int .i64 n4, .int .i64 n5, .string n6] 34);have HB3 := Hi (below_next HB2.out hb3);have HK3 := Hi ((hb3.block bc hbc3).trans HK2.out);have HN3 := Hi (heap_new W2 (.cells #[.int .i64 n0, .int .u32 n1, .int .u32 n2, .int .u32 n3, .int .i64 n4, .int .i64 n5, .string n6] 34));clear hb3;obtain ⟨k0, k1, k2, k3, k4, k5, k6, k7, k8, k9, k10⟩ := Own.cs11 HK3.out;obtain ⟨m0, m1, m2, m3, m4, m5, m6⟩ := Own.cs7 HN3.out;have hres := hdn (3, pa, tp, (kd, mo, ui, gi, mt, at_, da), su) (show (3 : Int) ≠ 0 by decide) rfl;rw [if_neg (show ¬ (3 : Int) = 1 by decide), if_neg (show ¬ (3 : Int) = 2 by decide), if_pos rfl] at hres;have HRS := Hi hres;clear hres hdn;have HWO := Hi (fun w (h : Below W.heap.size W w) => without_any s A c pa w (Kd.C_below HC.out h) (by omega));have hwl : (woP s pa).length ≤ s.length := List.length_filter_le _ _;have HPT := Hi (fun w A5 c5 hC5 => rput_any (woP s pa) A5 c5 tp n0 n1 n2 n3 n4 n5 n6 w hC5 (by omega) (fun x hx => HSS.out x (List.mem_filter.1 hx).1) (by omega));go_wp2;generalize W2.alloc (.cells #[.int .i64 n0, .int .u32 n1, .int .u32 n2, .int .u32 n3, .int .i64 n4, .int .i64 n5, .string n6] 34) = W3 at *;generalize W2.heap.size = bn at *;have HB4 : Hid (Below W.heap.size W W3.drew) := Hi (below_drew HB3.out);have p0 : W3.drew.cell? ⟨bc, 1, none⟩ = some (.string pa) := k1;have p1 : W3.drew.cell? ⟨bc, 2, none⟩ = some (.string tp) := k2;have p2 : W3.drew.cell? ⟨bn, 0, none⟩ = some (.int .i64 n0) := m0;have p3 : W3.drew.cell? ⟨bn, 1, none⟩ = some (.int .u32 n1) := m1;have p4 : W3.drew.cell? ⟨bn, 2, none⟩ = some (.int .u32 n2) := m2;have p5 : W3.drew.cell? ⟨bn, 3, none⟩ = some (.int .u32 n3) := m3;have p6 : W3.drew.cell? ⟨bn, 4, none⟩ = some (.int .i64 n4) := m4;have p7 : W3.drew.cell? ⟨bn, 5, none⟩ = some (.int .i64 n5) := m5;have p8 : W3.drew.cell? ⟨bn, 6, none⟩ = some (.string n6) := m6;refine start_ (n := 9) (S := fun w' => w'.cell? ⟨bc, 1, none⟩ = some (.string pa) ∧ w'.cell? ⟨bc, 2, none⟩ = some (.string tp) ∧ w'.cell? ⟨bn, 0, none⟩ = some (.int .i64 n0) ∧ w'.cell? ⟨bn, 1, none⟩ = some (.int .u32 n1) ∧ w'.cell? ⟨bn, 2, none⟩ = some (.int .u32 n2) ∧ w'.cell? ⟨bn, 3, none⟩ = some (.int .u32 n3) ∧ w'.cell? ⟨bn, 4, none⟩ = some (.int .i64 n4) ∧ w'.cell? ⟨bn, 5, none⟩ = some (.int .i64 n5) ∧ w'.cell? ⟨bn, 6, none⟩ = some (.string n6)) (ds := [7]) (bm 9 0) (by kernel_rfl) rfl rfl ⟨p0, p1, p2, p3, p4, p5, p6, p7, p8⟩ (fun hHeld => ?_);generalize W3.drew = w4 at *;refine pure_ (i := 0) (N := some 47) (v := ?_) (a' := ?_) (bm 9 1) rfl rfl (by kernel_rfl) (fun _ _ _ h => h) (Or.inl ⟨by rfl, ?_⟩) ?_ ?_;rotate_left;intro w';go_simp;(with_reducible rfl);rotate_left;simp only [Act.put, nA, nZ, nS, i64_w, i32_w];rfl;refine pure_ (i := 1) (N := some 48) (v := ?_) (a' := ?_) (bm 9 3) rfl rfl (by kernel_rfl) (fun _ _ _ h => h) (Or.inl ⟨by rfl, ?_⟩) ?_ ?_
 rotate_left;intro w';go_simp;(with_reducible rfl);rotate_left;simp only [Act.put, nA, nZ, nS, i64_w, i32_w];rfl;refine pure_ (i := 4) (N := some 51) (v := ?_) (a' := ?_) (bm 9 19) rfl rfl (by kernel_rfl) (fun _ _ _ h => h) (Or.inl ⟨by rfl, ?_⟩) ?_ ?_;rotate_left;intro w';go_simp;(with_reducible rfl);rotate_left;simp only [Act.put, nA, nZ, nS, i64_w, i32_w];rfl;refine take_ (i := 2) (N := some 49) (v := ?_) (a' := ?_) (bm 9 23) rfl rfl (by kernel_rfl) (fun _ _ _ h => h) (Or.inl ⟨by rfl, ?_⟩) hHeld ?_ ?_;rotate_left;rintro w' ⟨s0, s1, s2, s3, s4, s5, s6, s7, s8⟩;go_simp;(with_reducible rfl);rotate_left;simp only [Act.put, nA, nZ, nS, i64_w, i32_w];rfl;refine take_ (i := 5) (N := some 52) (v := ?_) (a' := ?_) (bm 9 55) rfl rfl (by kernel_rfl) (fun _ _ _ h => h) (Or.inl ⟨by rfl, ?_⟩) hHeld ?_ ?_;rotate_left;rintro w' ⟨s0, s1, s2, s3, s4, s5, s6, s7, s8⟩;go_simp;(with_reducible rfl);rotate_left;simp only [Act.put, nA, nZ, nS, i64_w, i32_w];rfl;refine take_ (i := 6) (N := some 53) (v := ?_) (a' := ?_) (bm 9 119) rfl rfl (by kernel_rfl) (fun _ _ _ h => h) (Or.inl ⟨by rfl, ?_⟩) hHeld ?_ ?_;rotate_left;rintro w' ⟨s0, s1, s2, s3, s4, s5, s6, s7, s8⟩;go_simp;(with_reducible rfl);rotate_left;simp only [Act.put, nA, nZ, nS, i64_w, i32_w];rfl;refine one_ (i := 3) (N := some 50) (bm 9 127) rfl rfl (by kernel_rfl) (by decide) (fun K hK => ?_);refine goes_ Tryz.func22 (by kernel_rfl) rfl #[.slice A s.length c, .string pa] (by rfl) rfl rfl (by simp only [List.map_toArray, List.map_cons, List.map_nil]; rfl) ?_;with_reducible refine (HWO.out w4 HB4.out).mono ?_
 rintro e w5 ⟨v5, rfl, hr5, hb5⟩;refine ⟨_, rfl, ?_⟩;obtain ⟨A5, c5, hv5⟩ := Kd.R_slice hr5;subst hv5;have HC5 := Hi (Kd.R_reads' hr5).2.2;have HB5 := Hi (below_next HB4.out hb5);have q0 := pw_cell_below hb5 p0;have q1 := pw_cell_below hb5 p1;have q2 := pw_cell_below hb5 p2;have q3 := pw_cell_below hb5 p3;have q4 := pw_cell_below hb5 p4;have q5 := pw_cell_below hb5 p5;have q6 := pw_cell_below hb5 p6;have q7 := pw_cell_below hb5 p7;have q8 := pw_cell_below hb5 p8;clear hr5 hb5;refine hK.out _ _ ⟨q0, q1, q2, q3, q4, q5, q6, q7, q8⟩ (fun hHeld => ?_);clear hK K;refine norm_ (a' := ?_) ?_ ?_;rotate_left
 ·
  show Act.put _ (some 50) _ = _
  simp only [Act.put, nA, nZ, nS, i64_w, i32_w];rfl
 refine last_ (i := 7) (N := some 54) (bm 9 255) rfl rfl (by kernel_rfl) (by decide) (fun K hK => ?_);refine goes_ Tryz.func106 (by kernel_rfl) rfl #[.slice A5 (woP s pa).length c5, .string tp, .agg #[.int .i64 n0, .int .u32 n1, .int .u32 n2, .int .u32 n3, .int .i64 n4, .int .i64 n5, .string n6]] (by rfl) rfl rfl (by simp only [List.map_toArray, List.map_cons, List.map_nil]; rfl) ?_;with_reducible refine (HPT.out w5 A5 c5 HC5.out).mono ?_
 rintro e w8 ⟨v1, rfl, hr8, hb8⟩;refine ⟨_, rfl, ?_⟩;have HF := Hi (And.intro (show itemK.R 77 w8 W.heap.size (fun _ => True) v1 (doneP s (3, pa, tp, (kd, mo, ui, gi, mt, at_, da), su)) from by rw [HRS.out]; exact Kd.R_lower hr8 HB5.out.size) (below_next HB5.out hb8));obtain ⟨A8, c8, hv8⟩ := Kd.R_slice hr8;generalize (putP (woP s pa) (tp, n0, n1, n2, n3, n4, n5, n6)).length = N8 at hv8;subst hv8;clear hr8 hb8;refine hK.out _ _ ?_;clear hK K;refine norm_ (a' := ?_) ?_ ?_;rotate_left
 ·
  show Act.put _ (some 54) _ = _
  simp only [Act.put, nA, nZ, nS, i64_w, i32_w];rfl
 refine pure_ (i := 8) (N := some 4) (v := ?_) (a' := ?_) (bm 9 511) rfl rfl (by kernel_rfl) (fun _ _ _ h => h) (Or.inl ⟨by rfl, ?_⟩) ?_ ?_;rotate_left;intro w';go_simp;(with_reducible rfl);rotate_left;simp only [Act.put, nA, nZ, nS, i64_w, i32_w];rfl;refine done_ (by kernel_rfl) ?_;go_wp2;go_ret;exact ⟨_, rfl, HF.out.1, HF.out.2⟩
theorem rdone_own (s : List It) (A : Option Addr) (c : Nat) (pa tp : ByteArray) (kd mo ui gi mt at_ : Int) (da : ByteArray) (su : Bool) (W : World) (hC : ItemC W A s) (hs : s.length ≤ 900000) (hss : ∀ x ∈ s, x.1.size ≤ 10000) (hp : pa.size ≤ 10000) (hp2 : tp.size ≤ 10000) (k : Int) (hk : k = 0 ∨ k = 1 ∨ k = 2 ∨ k = 3 ∨ k = 4) :
  Calls Tryz.prog 76 #[.slice A s.length c, .agg #[.int .i64 k, .string pa, .string tp, .int .i64 kd, .int .u32 mo, .int .u32 ui, .int .u32 gi, .int .i64 mt, .int .i64 at_, .string da, .bool su]] W fun e w' => ∃ v1, e = .returned v1 ∧ (v1 = .slice A s.length c ∧ doneP s (k, pa, tp, (kd, mo, ui, gi, mt, at_, da), su) = s ∨ itemK.R 77 w' W.heap.size (fun _ => True) v1 (doneP s (k, pa, tp, (kd, mo, ui, gi, mt, at_, da), su))) ∧ Below W.heap.size W w' := by
 have get : ∀ (r : List It) (e : Ending) (w' : World), (∃ v1, e = .returned v1 ∧ itemK.R 77 w' W.heap.size (fun _ => True) v1 r ∧ Below W.heap.size W w') → ∃ v1, e = .returned v1 ∧ (v1 = .slice A s.length c ∧ r = s ∨ itemK.R 77 w' W.heap.size (fun _ => True) v1 r) ∧ Below W.heap.size W w' := fun r e w' h => by
  obtain ⟨v1, h1, h2, h3⟩ := h;exact ⟨v1, h1, .inr h2, h3⟩
 rcases hk with rfl | hk
 ·
  exact (rdone_put s A c pa tp kd mo ui gi mt at_ da su W hC hs hss hp).mono (get _)
 cases hf : findP s pa with
 | none =>
  have e : doneP s (k, pa, tp, (kd, mo, ui, gi, mt, at_, da), su) = s := by
   unfold doneP
   rw [if_neg (show ¬ k = 0 by rcases hk with rfl | rfl | rfl | rfl <;> decide)]
   simp only [hf]
  rw [e];have got : ∀ (e : Ending) (w' : World), (e = .returned (.slice A s.length c) ∧ Below W.heap.size W w') → ∃ v1, e = .returned v1 ∧ (v1 = .slice A s.length c ∧ s = s ∨ itemK.R 77 w' W.heap.size (fun _ => True) v1 s) ∧ Below W.heap.size W w' := fun e w' h => ⟨_, h.1, .inl ⟨rfl, rfl⟩, h.2⟩
  rcases hk with rfl | rfl | rfl | rfl
  ·
   exact (rdone_none s A c pa tp kd mo ui gi mt at_ da su W hC hs hss hp 1 (by decide) hf).mono got
  ·
   exact (rdone_none s A c pa tp kd mo ui gi mt at_ da su W hC hs hss hp 2 (by decide) hf).mono got
  ·
   exact (rdone_none s A c pa tp kd mo ui gi mt at_ da su W hC hs hss hp 3 (by decide) hf).mono got
  exact (rdone_none s A c pa tp kd mo ui gi mt at_ da su W hC hs hss hp 4 (by decide) hf).mono got
 | some x =>
  rcases hk with rfl | rfl | rfl | rfl
  ·
   exact (rdone_fill s A c pa tp kd mo ui gi mt at_ da su W hC hs hss hp ⟨x, hf⟩).mono (get _)
  ·
   exact (rdone_gone s A c pa tp kd mo ui gi mt at_ da su W hC hs hss hp ⟨x, hf⟩).mono (get _)
  ·
   exact (rdone_move s A c pa tp kd mo ui gi mt at_ da su W hC hs hss hp ⟨x, hf⟩ hp2).mono (get _)
  exact (rdone_meta s A c pa tp kd mo ui gi mt at_ da su W hC hs hss hp ⟨x, hf⟩).mono (get _)
theorem rdone_any (s : List It) (A : Option Addr) (c : Nat) (pa tp : ByteArray) (kd mo ui gi mt at_ : Int) (da : ByteArray) (su : Bool) (W : World) (n : Nat) (h : itemK.R 77 W n (fun _ => True) (.slice A s.length c) s) (hn : n ≤ W.heap.size) (hs : s.length ≤ 900000) (hss : ∀ x ∈ s, x.1.size ≤ 10000) (hp : pa.size ≤ 10000) (hp2 : tp.size ≤ 10000) (k : Int) (hk : k = 0 ∨ k = 1 ∨ k = 2 ∨ k = 3 ∨ k = 4) :
  Calls Tryz.prog 76 #[.slice A s.length c, .agg #[.int .i64 k, .string pa, .string tp, .int .i64 kd, .int .u32 mo, .int .u32 ui, .int .u32 gi, .int .i64 mt, .int .i64 at_, .string da, .bool su]] W fun e w' => ∃ v1, e = .returned v1 ∧ itemK.R 77 w' n (fun _ => True) v1 (doneP s (k, pa, tp, (kd, mo, ui, gi, mt, at_, da), su)) ∧ Below W.heap.size W w' :=
 (rdone_own s A c pa tp kd mo ui gi mt at_ da su W (Kd.R_reads' h).2.2 hs hss hp hp2 k hk).mono fun e w' ⟨v1, h1, h2, h3⟩ => ⟨v1, h1, by
  rcases h2 with ⟨q1, q2⟩ | h2
  ·
   rw [q1, q2]; exact Kd.R_below h h3
  exact Kd.R_lower h2 hn, h3⟩
end Go.Proofs.YtibmfjacfbpfgaaGreatDoor.RDone
namespace Go.Proofs.YtibmfjacfbpfgaaGreatDoor.RLead
open Go.RowKit YtibmfjacfbpfgaaGreatDoorW PrintWords PrintLast PrintMore NameLaw NameWalk NameRef NameKeepLaw NameUse YtibmfjacfbpfgaaGreatDoor.Item Own NodeRes TreeLaw TreeRef SortIns FillLaw DiffLaw RealLaw DoneLaw RealKeep KeepLaw JoinLaw DAt StepA Step Real
theorem rparts_row (a : ByteArray) (w : World) (ha : a.size ≤ 100000) : Calls Tryz.prog 73 #[.string a] w fun e w' => ∃ v, e = .returned v ∧ Kd.string.R 9 w' w.heap.size (fun _ => True) v (partsT a) ∧ Below w.heap.size w w' :=
 (PNm.r_Parts.calls (a.size + 1) a _ w (rparts_f _ a ha (by omega)))
theorem rjoin_any (u p : ByteArray) (w : World) (hu : u.size ≤ 100000) (hp : p.size ≤ 100000) :
  Calls Tryz.prog 75 #[.string u, .string p] w fun e w' => e = .returned (.string (joinS u p)) ∧ Below w.heap.size w w' := by
 by_cases h0 : u.toList = []
 ·
  have hd : u.toList.isEmpty = true := by rw [h0]; rfl
  have hd2 : (u.toList == []) = true := by rw [h0]; rfl
  have HJ := Hi (show joinS u p = p from if_pos (by rw [← Lib.toList_data]; exact h0));clear h0;go_enter Tryz.func75, Tryz.ntmps75;go_wp2;go_ret;exact ⟨by rw [HJ.out]; rfl, Below.refl _ _⟩
 have hd : u.toList.isEmpty = false := by simp [h0]
 have hd2 : (u.toList == []) = false := by simpa using h0
 have HJ := Hi (join_data (u := u) (p := p) (by rw [← Lib.toList_data]; exact h0));clear h0;go_enter Tryz.func75, Tryz.ntmps75;go_wp2;go_ret;have e : u ++ ⟨#[47]⟩ ++ p = joinS u p := ByteArray.ext (Array.toList_inj.1 (by rw [HJ.out]; simp));exact ⟨congrArg (fun x => Ending.returned (Value.string x)) e, Below.refl _ _⟩
def leadW (w : Wk) : ByteArray := if w.2.2 = 0 then w.1 else ⟨#[]⟩
theorem leadW_ok {w : Wk} (h : w.2.2 = 0) : leadW w = w.1 := if_pos h
theorem leadW_err {w : Wk} (h : w.2.2 ≠ 0) : leadW w = ⟨#[]⟩ := if_neg h
theorem fold_split (s : List It) (n : Nat) (d : ByteArray) (w : Wk) : (splitT d).foldl (walkR s n) w = (partsT d).foldl (walkR s n) w := by
 by_cases h : d.data.toList = []
 ·
  have h1 : splitT d = [⟨#[]⟩] := by unfold splitT; rw [h]; rfl
  have h2 : partsT d = [] := by unfold partsT partsL; rw [if_pos h]; rfl
  rw [h1, h2]
  show walkR s n w ⟨#[]⟩ = w
  exact walk_stay (.inr (.inl rfl))
 have : partsT d = splitT d := by unfold partsT partsL splitT; rw [if_neg h]
 rw [this]
theorem fold_ends {s : List It} {n : Nat} {L : List ByteArray} {j : Nat} (hj : j < L.length) {w0 w : Wk} (h : (L.take (j + 1)).foldl (walkR s n) w0 = w) (he : w.2.2 ≠ 0) : L.foldl (walkR s n) w0 = w := by
 rw [← List.take_append_drop (j + 1) L, List.foldl_append, h, fold_err s n _ w he]
structure Tree15 (s : List It) : Prop where
 len : s.length ≤ 1000000
 paths : ∀ x ∈ s, x.1.size ≤ 9000
 data : ∀ x ∈ s, x.2.2.2.2.2.2.2.size ≤ 100000
def LeadAny (s : List It) (n : Nat) : Prop := ∀ (W : World) (A : Option Addr) (c : Nat) (u : ByteArray) (L : List ByteArray) (Ap : Option Addr) (cp k : Nat), ItemC W A s → Kd.string.C W Ap L.length L → 16 ≤ k + n → WOk (u, k, 0) → (∀ p ∈ L, ∀ c ∈ p.data.toList, c ≠ 47) → (∀ p ∈ L, p.size ≤ 100000) →
 Calls Tryz.prog 74 #[.slice A s.length c, .string u, .slice Ap L.length cp, .int .i64 k] W fun e w' => e = .returned (.tuple #[.string (leadW (L.foldl (walkR s n) (u, k, 0))), .int .i64 (L.foldl (walkR s n) (u, k, 0)).2.1, .int .i64 (L.foldl (walkR s n) (u, k, 0)).2.2]) ∧ Below W.heap.size W w'
theorem data_small {s : List It} (h : Tree15 s) (p : ByteArray) : (dataAt s p).size ≤ 100000 := by
 unfold dataAt nodeOf
 cases hf : findP s p with
 | none => decide
 | some x => exact h.data x (find_mem hf).1
theorem lead_gen (s : List It) (hT : Tree15 s) (n : Nat) (hIH : ∀ m, n = m + 1 → LeadAny s m) : LeadAny s n := by
 intro W A c u L Ap cp k hI hL hn hok hfr hle;have HI := Hi hI;have HL := Hi hL;have HFR := Hi hfr;have HLE := Hi hle;have HT := Hi hT;have HOK0 := Hi hok;have hLl := hL.2.1;have HF0 : Hid ((L.take 0).foldl (walkR s n) (u, k, 0) = (u, k, 0)) := Hi rfl;clear hI hL hfr hle hok hT;go_enter Tryz.func74, Tryz.ntmps74;go_wp2
 go_loopw [1, 3, 19] (fun va vk i wr => ∃ (j : Nat) (p : ByteArray) (q : Nat), j ≤ L.length ∧ i = .int .i64 j ∧ va = .string p ∧ vk = .int .i64 q ∧ Hid ((L.take j).foldl (walkR s n) (u, k, 0) = (p, q, 0)) ∧ Hid (WOk (p, q, 0)) ∧ Hid (Below W.heap.size W wr)) (fun va vk i _ => L.length - (intOf i).toNat)
 case atStart => exact ⟨0, u, k, Nat.zero_le _, rfl, rfl, rfl, HF0, HOK0, Hi (Below.refl _ _)⟩
 clear HF0 HOK0;obtain ⟨j, p, q, hj, rfl, rfl, rfl, HF, HOK, HB⟩ := hrel;have hok := HOK.out
 by_cases hlt : j < L.length
 ·
  have hltI : (j : Int) < (L.length : Int) := by omega
  obtain ⟨ad, rfl, ec⟩ := str_at (Kd.C_below HL.out HB.out) hlt;have HST0 := take_fold (walkR s n) L (u, k, 0) hlt;rw [HF.out] at HST0;have hfj := HFR.out _ (List.getElem_mem hlt);have hsj := HLE.out _ (List.getElem_mem hlt);have HEND := Hi (fun (w : Wk) h he => fold_ends (s := s) (n := n) hlt (w0 := (u, k, 0)) (w := w) h he);generalize L[j] = y at *;have HST := Hi HST0;have HWOK := Hi (walk_ok HT.out.paths n (p, q, 0) y hfj hok);have hus : p.size ≤ 9000 := hok.size;have hlk : q ≤ 17 := hok.links;have hfew : q ≤ 16 := hok.few rfl;have hmo : k ≤ q := by have := fold_mono (walk_mono s n) (L.take j) (u, k, 0); rw [HF.out] at this; exact this
  clear HST0 HF
  by_cases hp : y.data.toList = []
  ·
   have h1 : y.toList = [] := by rw [Lib.toList_data]; exact hp
   have q2 : y.toList.isEmpty = true := by rw [h1]; rfl
   have q3 : (y.toList == []) = true := by rw [h1]; rfl
   have hw := walk_stay (s := s) (n := n) (w := (p, q, 0)) (p := y) (.inr (.inl hp));have HOKN := HOK;have HW := Hi hw;clear h1 hp hw;go_wp2;go_roundw
   case rel => exact ⟨j + 1, p, q, by omega, by go_num, rfl, by go_num, Hi (HST.out.trans HW.out), HOKN, HB⟩
   case measure => simp [intOf]; omega
  have h1 : y.toList ≠ [] := by rw [Lib.toList_data]; exact hp
  have q2 : y.toList.isEmpty = false := by simp [h1]
  have q3 : (y.toList == []) = false := by simpa using h1
  by_cases hd1 : y = dot1
  ·
   have q4 : (y.toList == [46]) = true := by rw [hd1, dots_ne.1]; rfl
   have hw := walk_stay (s := s) (n := n) (w := (p, q, 0)) (p := y) (.inr (.inr hd1));have HOKN := HOK;have HW := Hi hw;clear h1 hp hw hd1;go_wp2;go_roundw
   case rel => exact ⟨j + 1, p, q, by omega, by go_num, rfl, by go_num, Hi (HST.out.trans HW.out), HOKN, HB⟩
   case measure => simp [intOf]; omega
  have q4 : (y.toList == [46]) = false := by rw [← dots_ne.1, dot_is]; exact decide_eq_false hd1
  have h0 : ¬ (((p, q, (0 : Int)) : Wk).2.2 ≠ 0 ∨ y.data.toList = [] ∨ y = dot1) := by
   rintro (h | h | h)
   ·
    exact h rfl
   ·
    exact hp h
   exact hd1 h
  by_cases hd2 : y = dot2
  ·
   have q5 : (y.toList == [46, 46]) = true := by rw [hd2, dots_ne.2]; rfl
   have HW := Hi (walk_up (s := s) (n := n) h0 hd2);have HOKN : Hid (WOk (parentT p, q, 0)) := Hi (by have := HWOK.out; rw [HW.out] at this; exact this);clear h1 hp hd1 h0 hd2
   go_wp2_with fail
   refine (rparent_next HB p (by omega)).mono ?_;rintro e w2 ⟨rfl, HB2⟩;go_wp2;go_roundw
   case rel => exact ⟨j + 1, (parentT p), q, by omega, by go_num, rfl, by go_num, Hi (HST.out.trans HW.out), HOKN, HB2⟩
   case measure => simp [intOf]; omega
  have q5 : (y.toList == [46, 46]) = false := by rw [← dots_ne.2, dot_is]; exact decide_eq_false hd2
  have HJ := Hi (fun w => rjoin_any p y w (by omega) (by omega));have hjs := join_size p y;have HN0 := Hi (fun h => walk_none (s := s) (n := n) h0 hd2 h);have HN2 := Hi (fun h => walk_file (s := s) (n := n) h0 hd2 h);have HN1 := Hi (fun h => walk_dir (s := s) (n := n) h0 hd2 h);have HN3 := Hi (fun h1 h2 => walk_loop (s := s) (n := n) h0 hd2 h1 h2);have HN4 := Hi (fun a b c d => walk_else (s := s) (n := n) h0 hd2 a b c d);have HNL := Hi (fun (m : Nat) h1 h2 => walk_link (s := s) (n := m) h0 hd2 h1 h2);have HK := Hi (fun w (h : Below W.heap.size W w) => rkind_any s A c (joinS p y) w (Kd.C_below HI.out h));have HFD := Hi (fun w (h : Below W.heap.size W w) => rfind_any s A c (joinS p y) w (Kd.C_below HI.out h));unfold aggN at HFD;have hdz := data_small HT.out (joinS p y);have hda : dataAt s (joinS p y) = (nodeOf (findP s (joinS p y))).2.2.2.2.2.2 := rfl;clear h1 hp hd1 h0 hd2;generalize hKK : kindOf s (joinS p y) = KK at *;generalize nodeOf (findP s (joinS p y)) = nd at *;generalize (findP s (joinS p y)).isSome = is_ at *;generalize dataAt s (joinS p y) = da at *;obtain ⟨n0, n1, n2, n3, n4, n5, n6⟩ := nd;have hda : da = n6 := hda;subst hda;have HKK := Hi hKK;clear hKK;generalize joinS p y = nx at *
  go_wp2_with fail
  refine (HJ.out wr).mono ?_;rintro e w2 ⟨rfl, hb2⟩;have HB2 := Hi (below_next HB.out hb2);clear hb2 HJ
  go_wp2_with fail
  refine (HK.out w2 HB2.out).mono ?_;rintro e w3 ⟨rfl, hb3⟩;have HB3 := Hi (below_next HB2.out hb3);clear hb3 HK
  by_cases k0 : KK = 0
  ·
   subst k0;have HE := Hi (HEND.out (p, q, 40) (HST.out.trans (HN0.out rfl)) (show (40 : Int) ≠ 0 by decide));go_wp2
   go_ret3
   exact ⟨by rw [HE.out, leadW_err (show (40 : Int) ≠ 0 by decide)]; rfl, HB3.out⟩
  by_cases k2 : KK = 2
  ·
   subst k2;have HE := Hi (HEND.out (p, q, 42) (HST.out.trans (HN2.out rfl)) (show (42 : Int) ≠ 0 by decide));go_wp2
   go_ret3
   exact ⟨by rw [HE.out, leadW_err (show (42 : Int) ≠ 0 by decide)]; rfl, HB3.out⟩
  by_cases k1 : KK = 1
  ·
   subst k1;have HW := Hi (HN1.out rfl);have HOKN : Hid (WOk (nx, q, 0)) := Hi (by have := HWOK.out; rw [HW.out] at this; exact this);clear HN0 HN1 HN2 HN3 HN4 HNL HFD;go_wp2;go_roundw
   case rel => exact ⟨j + 1, nx, q, by omega, by go_num, rfl, by go_num, Hi (HST.out.trans HW.out), HOKN, HB3⟩
   case measure => simp [intOf]; omega
  have p0 : (KK == 0) = false := beq_eq_false_iff_ne.2 k0;have p1 : (KK == 1) = false := beq_eq_false_iff_ne.2 k1;have p2 : (KK == 2) = false := beq_eq_false_iff_ne.2 k2
  by_cases k3 : KK = 3
  ·
   subst k3;have hw2 : Go.RowKit.wrap64 ((q : Int) + 1) = (q : Int) + 1 := by unfold Go.RowKit.wrap64; omega
   by_cases h16 : 16 < q + 1
   ·
    have hgt : (16 : Int) < (q : Int) + 1 := by omega
    have HE := Hi (HEND.out (p, q + 1, 44) (HST.out.trans (HN3.out rfl h16)) (show (44 : Int) ≠ 0 by decide));have HQ := Hi (show ((q + 1 : Nat) : Int) = (q : Int) + 1 by omega);go_wp2
    go_ret3
    refine ⟨?_, HB3.out⟩;rw [HE.out, leadW_err (show (44 : Int) ≠ 0 by decide)]
    show _ = Ending.returned (Value.tuple #[.string ⟨#[]⟩, .int .i64 ((q + 1 : Nat) : Int), .int .i64 44])
    rw [HQ.out];rfl
   have hgt : ¬ (16 : Int) < (q : Int) + 1 := by omega
   cases n with
   | zero => exact absurd (show 16 < q + 1 by omega) h16
   | succ n =>
   have hlink := HNL.out n rfl h16;have HIH := Hi (hIH n rfl);have hn16 : 16 ≤ (q + 1) + n := by omega
   rw [fold_split] at hlink;have HLK := Hi hlink;have HQ := Hi (show ((q + 1 : Nat) : Int) = (q : Int) + 1 by omega);clear hlink h16 HN0 HN1 HN2 HN3 HN4 HNL;skip
   go_wp2_with fail
   refine (HFD.out w3 HB3.out).mono ?_;rintro e w4 ⟨rfl, hb4⟩;have HB4 := Hi (below_next HB3.out hb4);clear hb4 HFD;have hb5 := below_one w4 (.cells #[.int .i64 n0, .int .u32 n1, .int .u32 n2, .int .u32 n3, .int .i64 n4, .int .i64 n5, .string da] 34);have HB5 := Hi (below_next HB4.out hb5);have c6 : (w4.alloc (.cells #[.int .i64 n0, .int .u32 n1, .int .u32 n2, .int .u32 n3, .int .i64 n4, .int .i64 n5, .string da] 34)).cell? ⟨w4.heap.size, 6, none⟩ = some (.string da) := by rw [cell_of (heap_new w4 _)]; rfl
   clear hb5;obtain ⟨u2, hu2⟩ : ∃ u2, u2 = (if da.data.toList.head? = some 47 then (⟨#[]⟩ : ByteArray) else p) := ⟨_, rfl⟩;rw [← hu2] at HLK;have HU2 := Hi hu2;have HOK2 : Hid (WOk (u2, q + 1, 0)) := Hi ⟨by show Full u2; rw [hu2]; split; exact full_nil; exact hok.full, by show u2.size ≤ 9000; rw [hu2]; split; decide; exact hok.size, by show q + 1 ≤ 17; omega, fun _ => by show q + 1 ≤ 16; omega⟩;clear hu2;have HPT := Hi (fun w => rparts_row da w (by omega));have HPF := Hi (parts_free da);have HPZ := Hi (fun p' hp' => Nat.le_trans (partsT_le da p' hp') hdz);have HC0 := Hi (fun (w6 : World) (h6 : Below W.heap.size W w6) Ar cr hCr => HIH.out w6 A c u2 (partsT da) Ar cr (q + 1) (Kd.C_below HI.out h6) hCr hn16 HOK2.out HPF.out HPZ.out);generalize (partsT da).foldl (walkR s n) (u2, q + 1, 0) = wl at *;rw [HQ.out] at HC0;obtain ⟨wa, wk, we⟩ := wl;clear HIH HOK2 HPF HPZ
   by_cases hz : da.data.toList = []
   ·
    obtain rfl : u2 = p := by rw [HU2.out, hz]; rfl
    have hs0 : da.size = 0 := by have := len_data da; rw [hz] at this; simp at this; omega
    have hs1 : ¬ (0 : Int) < (da.size : Int) := by omega
    clear HU2 hz
    go_wp2_with fail
    refine (HPT.out _).mono ?_;rintro e w6 ⟨vp, rfl, hrp, hb6⟩;obtain ⟨Ar, cr, hvp, _, hCr⟩ := Kd.R_reads hrp;subst hvp;have HB6 := Hi (below_next HB5.out hb6);have HC := Hi (HC0.out w6 HB6.out Ar cr hCr);clear hrp hb6 hCr HPT HC0
    by_cases he : we = 0
    ·
     subst he;rw [leadW_ok rfl] at HC
     go_wp2_with fail
     refine HC.out.mono ?_;rintro e w7 ⟨rfl, hb7⟩;have HB7 := Hi (below_next HB6.out hb7);have HOKN : Hid (WOk (wa, wk, 0)) := Hi (by have := HWOK.out; rw [HLK.out] at this; exact this);clear hb7 HC;go_wp2;go_roundw
     case rel => exact ⟨j + 1, wa, wk, by omega, by go_num, rfl, by go_num, Hi (HST.out.trans HLK.out), HOKN, HB7⟩
     case measure => simp [intOf]; omega
    have v0 : (we == 0) = false := beq_eq_false_iff_ne.2 he;have v1 : (we != 0) = true := bne_iff_ne.2 he;rw [leadW_err he] at HC;have HE := Hi (HEND.out (wa, wk, we) (HST.out.trans HLK.out) he);have HEE := Hi he;clear he
    go_wp2_with fail
    refine HC.out.mono ?_;rintro e w7 ⟨rfl, hb7⟩;have HB7 := Hi (below_next HB6.out hb7);clear hb7 HC;go_wp2
    go_ret3
    exact ⟨by rw [HE.out, leadW_err HEE.out]; rfl, HB7.out⟩
   obtain ⟨b0, rest, hbr⟩ := List.exists_cons_of_ne_nil hz;have hs0' : 0 < da.size := by have := len_data da; rw [hbr] at this; simp at this; omega
   have hs0 : (0 : Int) < (da.size : Int) := by omega
   have hs1 : decide ((0 : Int) < (da.size : Int)) = true := decide_eq_true hs0
   have e0 : da[0]'hs0' = b0 := by
    show da.data[0] = b0
    rw [← Array.getElem_toList];simp [hbr]
   have hhd : da.data.toList.head? = some b0 := by rw [hbr]; rfl
   by_cases hb47 : b0 = 47
   ·
    obtain rfl : u2 = ⟨#[]⟩ := by rw [HU2.out, hhd, hb47]; rfl
    have hq47 : (((da[0]'hs0').toNat : Int) == 47) = true := by rw [e0, hb47]; rfl
    clear HU2 hz hbr hhd e0 hb47
    go_wp2_with fail
    refine (HPT.out _).mono ?_;rintro e w6 ⟨vp, rfl, hrp, hb6⟩;obtain ⟨Ar, cr, hvp, _, hCr⟩ := Kd.R_reads hrp;subst hvp;have HB6 := Hi (below_next HB5.out hb6);have HC := Hi (HC0.out w6 HB6.out Ar cr hCr);clear hrp hb6 hCr HPT HC0
    by_cases he : we = 0
    ·
     subst he;rw [leadW_ok rfl] at HC
     go_wp2_with fail
     refine HC.out.mono ?_;rintro e w7 ⟨rfl, hb7⟩;have HB7 := Hi (below_next HB6.out hb7);have HOKN : Hid (WOk (wa, wk, 0)) := Hi (by have := HWOK.out; rw [HLK.out] at this; exact this);clear hb7 HC;go_wp2;go_roundw
     case rel => exact ⟨j + 1, wa, wk, by omega, by go_num, rfl, by go_num, Hi (HST.out.trans HLK.out), HOKN, HB7⟩
     case measure => simp [intOf]; omega
    have v0 : (we == 0) = false := beq_eq_false_iff_ne.2 he;have v1 : (we != 0) = true := bne_iff_ne.2 he;rw [leadW_err he] at HC;have HE := Hi (HEND.out (wa, wk, we) (HST.out.trans HLK.out) he);have HEE := Hi he;clear he
    go_wp2_with fail
    refine HC.out.mono ?_;rintro e w7 ⟨rfl, hb7⟩;have HB7 := Hi (below_next HB6.out hb7);clear hb7 HC;go_wp2
    go_ret3
    exact ⟨by rw [HE.out, leadW_err HEE.out]; rfl, HB7.out⟩
   obtain rfl : u2 = p := by rw [HU2.out, hhd, if_neg (fun e => hb47 (Option.some.inj e))]
   have hq47 : (((da[0]'hs0').toNat : Int) == 47) = false := by rw [e0]; refine beq_eq_false_iff_ne.2 (fun e => hb47 (UInt8.toNat_inj.1 (by have : (47 : UInt8).toNat = 47 := rfl; omega)))
   clear HU2 hz hbr hhd e0 hb47
   go_wp2_with fail
   refine (HPT.out _).mono ?_;rintro e w6 ⟨vp, rfl, hrp, hb6⟩;obtain ⟨Ar, cr, hvp, _, hCr⟩ := Kd.R_reads hrp;subst hvp;have HB6 := Hi (below_next HB5.out hb6);have HC := Hi (HC0.out w6 HB6.out Ar cr hCr);clear hrp hb6 hCr HPT HC0
   by_cases he : we = 0
   ·
    subst he;rw [leadW_ok rfl] at HC
    go_wp2_with fail
    refine HC.out.mono ?_;rintro e w7 ⟨rfl, hb7⟩;have HB7 := Hi (below_next HB6.out hb7);have HOKN : Hid (WOk (wa, wk, 0)) := Hi (by have := HWOK.out; rw [HLK.out] at this; exact this);clear hb7 HC;go_wp2;go_roundw
    case rel => exact ⟨j + 1, wa, wk, by omega, by go_num, rfl, by go_num, Hi (HST.out.trans HLK.out), HOKN, HB7⟩
    case measure => simp [intOf]; omega
   have v0 : (we == 0) = false := beq_eq_false_iff_ne.2 he;have v1 : (we != 0) = true := bne_iff_ne.2 he;rw [leadW_err he] at HC;have HE := Hi (HEND.out (wa, wk, we) (HST.out.trans HLK.out) he);have HEE := Hi he;clear he
   go_wp2_with fail
   refine HC.out.mono ?_;rintro e w7 ⟨rfl, hb7⟩;have HB7 := Hi (below_next HB6.out hb7);clear hb7 HC;go_wp2
   go_ret3
   exact ⟨by rw [HE.out, leadW_err HEE.out]; rfl, HB7.out⟩
  have p3 : (KK == 3) = false := beq_eq_false_iff_ne.2 k3;have HW := Hi (HN4.out k0 k2 k1 k3);have HOKN := HOK;clear HN0 HN1 HN2 HN3 HN4 HNL HFD k0 k1 k2 k3;go_wp2;go_roundw
  case rel => exact ⟨j + 1, p, q, by omega, by go_num, rfl, by go_num, Hi (HST.out.trans HW.out), HOKN, HB3⟩
  case measure => simp [intOf]; omega
 have hj2 : ¬ (j : Int) < (L.length : Int) := by omega
 have HE : Hid (L.foldl (walkR s n) (u, k, 0) = (p, q, 0)) := Hi (by have h := HF.out; rw [List.take_of_length_le (by omega)] at h; exact h);go_wp2
 go_ret3
 exact ⟨by rw [HE.out, leadW_ok rfl]; rfl, HB.out⟩
theorem lead_any (s : List It) (hT : Tree15 s) : ∀ n, LeadAny s n
 | 0 => lead_gen s hT 0 (fun m h => by cases h)
 | n + 1 => lead_gen s hT (n + 1) (fun m h => by have e : n = m := Nat.succ.inj h; exact e ▸ lead_any s hT n)
end Go.Proofs.YtibmfjacfbpfgaaGreatDoor.RLead
namespace Go.Proofs.YtibmfjacfbpfgaaGreatDoor.RDisk
open Go.RowKit YtibmfjacfbpfgaaGreatDoorW PrintWords PrintLast PrintMore NameLaw NameWalk NameRef NameUse YtibmfjacfbpfgaaGreatDoor.Item Own NodeRes TreeLaw TreeRef TreeRef2 SortIns FillLaw DiffLaw RealLaw RealKeep KeepLaw OpLaw OpKeep DkLaw DSmall DSync RLead RDone
theorem k_to_m {W w : World} {base : Nat} {ok : Nat → Prop} : ∀ (x : It) cs, itemK.K w x cs → itemK.M W base ok x cs := fun x cs h => by
 have := itemK_K h;subst this;exact itemK_M _ _ _ _
theorem ch_at {w : World} {A : Option Addr} {l : List Chg} (h : chK.C w A l.length l) {k : Nat} (hk : k < l.length) : ∃ ad, A = some ad ∧ ∀ j u, (cellsC l[k])[j]? = some u → w.cell? ((ad.add (k * 11)).add j) = some u := by
 obtain ⟨ad, e, hc⟩ := h.2.2 (by omega);obtain ⟨cs, hl, hK, hcell⟩ := hc k _ (List.getElem?_eq_getElem hk);have := chK_K hK;subst this;refine ⟨ad, e, fun j u hu => ?_⟩;have h := hcell j u hu;rw [← Addr.add_add] at h;exact h
structure RAt (W : World) (n b : Nat) (vb vw : Value) (d : Dk) : Prop where
 blk : W.heap[b]? = some (.cells #[vb, vw, .int .i64 d.limit, .int .i64 d.fuse, .int .i64 d.fail, .bool d.off, .int .i64 d.steps] 87 (0, 0))
 rb : itemK.R 77 W n (fun _ => True) vb d.base
 rw : chK.R 121 W n (fun _ => True) vw d.waits
 nb : n ≤ b
def ROwns (b : Nat) (vb vw : Value) (k : Nat) : Prop := k = b ∨ vb.ownBlock = some k ∨ vw.ownBlock = some k
section
variable {W W1 : World} {n b : Nat} {vb vw : Value} {d : Dk}
theorem RAt.lt (h : RAt W n b vb vw d) : b < W.heap.size := (Array.getElem?_eq_some_iff.1 h.blk).1
theorem RAt.below (h : RAt W n b vb vw d) (hb : Below W.heap.size W W1) : RAt W1 n b vb vw d := ⟨(hb.block b h.lt).trans h.blk, Kd.R_below h.rb hb, Kd.R_below h.rw hb, h.nb⟩
theorem RAt.still {S T : Nat → Prop} (h : RAt W n b vb vw d) (hk : Still W W1 S T) (hs : ∀ k, ROwns b vb vw k → ¬ S k) : RAt W1 n b vb vw d :=
 ⟨(hk.block b h.lt (hs b (.inl rfl))).trans h.blk, R_stillS rfl h.rb hk (fun k e => hs k (.inr (.inl e))), R_stillS rfl h.rw hk (fun k e => hs k (.inr (.inr e))), h.nb⟩
theorem RAt.c0 (h : RAt W n b vb vw d) : W.cell? ⟨b, 0, none⟩ = some vb := by rw [cell_of h.blk]; rfl
theorem RAt.c1 (h : RAt W n b vb vw d) : W.cell? ⟨b, 1, none⟩ = some vw := by rw [cell_of h.blk]; rfl
theorem RAt.c2 (h : RAt W n b vb vw d) : W.cell? ⟨b, 2, none⟩ = some (.int .i64 d.limit) := by rw [cell_of h.blk]; rfl
theorem RAt.c3 (h : RAt W n b vb vw d) : W.cell? ⟨b, 3, none⟩ = some (.int .i64 d.fuse) := by rw [cell_of h.blk]; rfl
theorem RAt.c4 (h : RAt W n b vb vw d) : W.cell? ⟨b, 4, none⟩ = some (.int .i64 d.fail) := by rw [cell_of h.blk]; rfl
theorem RAt.c5 (h : RAt W n b vb vw d) : W.cell? ⟨b, 5, none⟩ = some (.bool d.off) := by rw [cell_of h.blk]; rfl
theorem RAt.c6 (h : RAt W n b vb vw d) : W.cell? ⟨b, 6, none⟩ = some (.int .i64 d.steps) := by rw [cell_of h.blk]; rfl
theorem RAt.fz (h : RAt W n b vb vw d) (j : Nat) : W.frozen? ⟨b, j, none⟩ = false := frozen_of h.blk j
theorem RAt.put (h : RAt W n b vb vw d) (j : Nat) (u : Value) {d' : Dk} (h1 : d'.base = d.base) (h2 : d'.waits = d.waits) (e : (#[vb, vw, .int .i64 d.limit, .int .i64 d.fuse, .int .i64 d.fail, .bool d.off, .int .i64 d.steps] : Array Value).setIfInBounds j u = #[vb, vw, .int .i64 d'.limit, .int .i64 d'.fuse, .int .i64 d'.fail, .bool d'.off, .int .i64 d'.steps]) :
  RAt (W.setCell ⟨b, j, none⟩ u) n b vb vw d' := ⟨blk_put h.blk j u e, h1 ▸ Kd.R_set h.rb h.blk (by decide) j u, h2 ▸ Kd.R_set h.rw h.blk (by decide) j u, h.nb⟩
theorem rowns_base (h : RAt W n b vb vw d) : ∀ k, ROwns b vb vw k → n ≤ k := by
 intro k hk
 rcases hk with e | e | e
 ·
  rw [e]; exact h.nb
 ·
  exact Kd.R_base h.rb k e
 exact Kd.R_base h.rw k e
theorem rowns_lt (h : RAt W n b vb vw d) : ∀ k, ROwns b vb vw k → k < W.heap.size := by
 intro k hk
 rcases hk with e | e | e
 ·
  rw [e]; exact h.lt
 ·
  exact Kd.R_lt h.rb k e
 exact Kd.R_lt h.rw k e
end
structure Doc (W0 W : World) (b : Nat) (vb vw : Value) (d : Dk) (m : Nat) : Prop where
 low : Below W0.heap.size W0 W
 at_ : RAt W W0.heap.size b vb vw d
 trees : Trees d
 bnd : Bnd m d
theorem doc_tree {s : List It} {m : Nat} (h : RightP s) (hl : s.length ≤ m) (hm : m ≤ 900000) (hd : Light s) : Tree15 s := ⟨by omega, right_size h, fun x hx => hd x hx⟩
theorem rnew_any (lim : Int) (W : World) :
  Calls Tryz.prog 11 #[.int .i64 lim] W fun e w' => e = .returned (.pointer (some ⟨W.heap.size, 0, none⟩)) ∧ RAt w' W.heap.size W.heap.size (.slice none 0 0) (.slice none 0 0) ⟨[], [], lim, -1, 0, false, 0⟩ ∧ Below W.heap.size W w' := by
 go_enter Tryz.func11, Tryz.ntmps11;go_wp2;go_ret;exact ⟨rfl, ⟨heap_new _ _, Kd.R_nil _ _ _ _ _, Kd.R_nil _ _ _ _ _, Nat.le_refl _⟩, below_one _ _⟩
theorem rshows_any (W0 W : World) (b : Nat) (vb vw : Value) (d : Dk) (m : Nat) (hD : Doc W0 W b vb vw d m) (hm : m ≤ 800000) :
  Calls Tryz.prog 36 #[.pointer (some ⟨b, 0, none⟩)] W fun e w' => ∃ v1, e = .returned v1 ∧ itemK.R 77 w' W.heap.size (fun _ => True) v1 d.shows ∧ Below W.heap.size W w' := by
 obtain ⟨Ab, cb, hvb, _, hCb⟩ := Kd.R_reads hD.at_.rb;subst hvb;obtain ⟨Aw, cw, hvw, _, hCw⟩ := Kd.R_reads hD.at_.rw;subst hvw;have c0 := hD.at_.c0;have c1 := hD.at_.c1;have HCb := Hi hCb;have HCw := Hi hCw;have HTR : Hid (∀ k, RightP ((d.waits.take k).foldl doneP d.base)) := Hi hD.trees;have HLC := Hi hD.bnd.waits;have hlen := hD.bnd.len;have HDD := Hi (show (d.waits.take d.waits.length).foldl doneP d.base = d.shows by rw [List.take_length]; rfl);have HB0 := Hi (Below.refl W.heap.size W);have HN0 : Hid (itemK.R 77 W W.heap.size (fun _ => True) (.slice none 0 0) []) := Hi (Kd.R_nil _ _ _ _ _);have HCb2 : Hid (itemK.C W Ab d.base.length d.base) := Hi hCb;clear hCb hCw hD;generalize d.base = bs at *;generalize d.waits = ws at *;generalize d.shows = fin at *;go_enter Tryz.func36, Tryz.ntmps36
 go_wp2_with ((with_reducible refine gate_builtin (b := .append) (xs := #[.tmp 6, .tmp 10]) rfl ?_); at_builtin; refine Kd.R_append_rows itemK (Rr := itemK.K W) (w0 := W) W.heap.size rfl (.tmp 6) (.tmp 10) 41 77 (.agg #[.string ByteArray.empty, .int .i64 0, .int .u32 0, .int .u32 0, .int .u32 0, .int .i64 0, .int .i64 0, .string ByteArray.empty]) 72 rfl Tryz.underlying41 infoItem rfl (by decide) (by decide) (.slice none 0 0) ([] : List It) bs Ab bs.length cb (fun _ => True) (fun _ => False) rfl rfl ?aO ?aR ?aK (fun _ hk => hk.elim) ?aF ?aB ?aS ?aL ?_; skip)
 case aO => exact HN0.out
 case aR => exact HCb2.out
 case aK => exact k_to_m
 case aF => exact (fun _ _ => trivial)
 case aB => exact HB0.out
 case aS => exact HB0.out.size
 case aL => first | omega | (simp; done) | (simp; omega)
 intro v3 w3 ho hb5 hg5 hat5;have HR3 := Hi ho;have HB3 := Hi hb5;clear ho hb5 hg5 hat5;(try rw [List.nil_append] at HR3);have c1 := pw_cell_below HB3.out c1;have HF0 : Hid ((ws.take 0).foldl doneP bs = bs) := Hi rfl;go_wp2
 go_loopw [3, 17] (fun v i wr => ∃ k : Nat, k ≤ ws.length ∧ i = .int .i64 k ∧ Hid (itemK.R 77 wr W.heap.size (fun _ => True) v ((ws.take k).foldl doneP bs)) ∧ Hid (Below W.heap.size W wr)) (fun v i _ => ws.length - (intOf i).toNat)
 case atStart => exact ⟨0, Nat.zero_le _, rfl, by rw [HF0.out]; exact HR3, HB3⟩
 clear HF0;obtain ⟨k, hk, rfl, HR, HB⟩ := hrel;obtain ⟨A, c, hv⟩ := Kd.R_slice HR.out;subst hv
 by_cases hlt : k < ws.length
 ·
  have hltI : (k : Int) < (ws.length : Int) := by omega
  have hget := ch_at (Kd.C_below HCw.out HB.out) hlt;have hlc := HLC.out _ (List.getElem_mem hlt);have hrt := HTR.out k;have hfl := fold_len (ws.take k) bs;have HST := Hi (List.take_succ_eq_append_getElem hlt);have hst : (ws.take (k + 1)).foldl doneP bs = doneP ((ws.take k).foldl doneP bs) ws[k] := by rw [List.take_succ_eq_append_getElem hlt, List.foldl_append]; rfl
  rw [List.length_take] at hfl;have hks := hlc.kind;have hps := hlc.path;have hds := hlc.dest;unfold kindsOk at hks;clear hlc HST;obtain ⟨ad, rfl, hget⟩ := hget;generalize ws[k] = x at *;obtain ⟨kk, pa, tp, ⟨kd, mo, ui, gi, mt, at_, da⟩, su⟩ := x;have e0 : wr.cell? (ad.add (k * 11)) = some (.int .i64 kk) := hget 0 _ rfl;have e1 : wr.cell? ⟨(ad.add (k * 11)).block, (ad.add (k * 11)).off + 1, none⟩ = some (.string pa) := hget 1 _ rfl;have e2 : wr.cell? ⟨(ad.add (k * 11)).block, (ad.add (k * 11)).off + 2, none⟩ = some (.string tp) := hget 2 _ rfl;have e3 : wr.cell? ⟨(ad.add (k * 11)).block, (ad.add (k * 11)).off + 3, none⟩ = some (.int .i64 kd) := hget 3 _ rfl;have e4 : wr.cell? ⟨(ad.add (k * 11)).block, (ad.add (k * 11)).off + 4, none⟩ = some (.int .u32 mo) := hget 4 _ rfl;have e5 : wr.cell? ⟨(ad.add (k * 11)).block, (ad.add (k * 11)).off + 5, none⟩ = some (.int .u32 ui) := hget 5 _ rfl;have e6 : wr.cell? ⟨(ad.add (k * 11)).block, (ad.add (k * 11)).off + 6, none⟩ = some (.int .u32 gi) := hget 6 _ rfl;have e7 : wr.cell? ⟨(ad.add (k * 11)).block, (ad.add (k * 11)).off + 7, none⟩ = some (.int .i64 mt) := hget 7 _ rfl;have e8 : wr.cell? ⟨(ad.add (k * 11)).block, (ad.add (k * 11)).off + 8, none⟩ = some (.int .i64 at_) := hget 8 _ rfl;have e9 : wr.cell? ⟨(ad.add (k * 11)).block, (ad.add (k * 11)).off + 9, none⟩ = some (.string da) := hget 9 _ rfl;have e10 : wr.cell? ⟨(ad.add (k * 11)).block, (ad.add (k * 11)).off + 10, none⟩ = some (.bool su) := hget 10 _ rfl
  (try simp only at hks hps hds)
  clear hget;generalize (ws.take k).foldl doneP bs = s at *;have hb5 := below_one wr (.cells #[.int .i64 kk, .string pa, .string tp, .int .i64 kd, .int .u32 mo, .int .u32 ui, .int .u32 gi, .int .i64 mt, .int .i64 at_, .string da, .bool su] 121);have HN5 := Hi (heap_new wr (.cells #[.int .i64 kk, .string pa, .string tp, .int .i64 kd, .int .u32 mo, .int .u32 ui, .int .u32 gi, .int .i64 mt, .int .i64 at_, .string da, .bool su] 121));have HR5 := Hi (Kd.R_below HR.out hb5);have HB5 := Hi (below_next HB.out hb5);obtain ⟨n0, n1, n2, n3, n4, n5, n6, n7, n8, n9, n10⟩ := Own.cs11 HN5.out;have HDN := Hi (rdone_any s A c pa tp kd mo ui gi mt at_ da su (wr.alloc (.cells #[.int .i64 kk, .string pa, .string tp, .int .i64 kd, .int .u32 mo, .int .u32 ui, .int .u32 gi, .int .i64 mt, .int .i64 at_, .string da, .bool su] 121)) W.heap.size HR5.out HB5.out.size (by omega) (fun x hx => by have := right_size hrt x hx; omega) (by omega) (by omega) kk hks);have HST := Hi hst;clear hb5 HR HB hst hrt
  go_wp2_with fail
  refine HDN.out.mono ?_;rintro e w6 ⟨v6, rfl, hr6, hb6⟩;have HR6 : Hid (itemK.R 77 w6 W.heap.size (fun _ => True) v6 ((ws.take (k + 1)).foldl doneP bs)) := Hi (by rw [HST.out]; exact hr6);have HB6 := Hi (below_next HB5.out hb6);clear hr6 hb6 HDN;go_wp2;go_roundw
  case rel => exact ⟨k + 1, by omega, by go_num, HR6, HB6⟩
  case measure => simp [intOf]; omega
 have hj2 : ¬ (k : Int) < (ws.length : Int) := by omega
 have hkk : k = ws.length := by omega
 subst hkk;rw [HDD.out] at HR ⊢;go_wp2;go_ret;exact ⟨_, rfl, HR.out, HB.out⟩
end Go.Proofs.YtibmfjacfbpfgaaGreatDoor.RDisk
namespace Go.Proofs.YtibmfjacfbpfgaaGreatDoor.RReal
open Go.RowKit YtibmfjacfbpfgaaGreatDoorW PrintWords PrintLast PrintMore NameLaw NameWalk NameRef NameKeepLaw NameUse YtibmfjacfbpfgaaGreatDoor.Item Own NodeRes TreeLaw TreeRef SortIns FillLaw DiffLaw RealLaw DoneLaw RealKeep KeepLaw JoinLaw DAt StepA Step Real RLead
theorem rreal_fell (s : List It) (hT : Tree15 s) (W : World) (A : Option Addr) (c : Nat) (hI : ItemC W A s) (path : ByteArray) (hp : path.size ≤ 10000) (hb : checkE path ≠ 0 ∨ checkD path = true) :
  Calls Tryz.prog 35 #[.slice A s.length c, .string path] W fun e w' => e = .returned (.tuple #[.string ⟨#[]⟩, .int .i64 20]) ∧ Below W.heap.size W w' := by
 have HCK := Hi (rcheck_next (Hi (Below.refl W.heap.size W)) path (by omega));generalize checkE path = E at *;generalize checkD path = D at *;generalize checkP path = P at *;clear hI hT
 by_cases hE : E = 0
 ·
  subst hE;obtain rfl : D = true := hb.resolve_left (fun h => h rfl);clear hb;go_enter Tryz.func35, Tryz.ntmps35
  go_wp2_with fail
  refine HCK.out.mono ?_;rintro e w1 ⟨rfl, HB1⟩;clear HCK;go_wp2;go_ret2;exact ⟨rfl, HB1.out⟩
 have q0 : (E == 0) = false := beq_eq_false_iff_ne.2 hE;have q1 : (E != 0) = true := bne_iff_ne.2 hE;clear hb;go_enter Tryz.func35, Tryz.ntmps35
 go_wp2_with fail
 refine HCK.out.mono ?_;rintro e w1 ⟨rfl, HB1⟩;clear HCK;go_wp2;go_ret2;exact ⟨rfl, HB1.out⟩
theorem rreal_rest (s : List It) (hT : Tree15 s) (W : World) (A : Option Addr) (c : Nat) (hI : ItemC W A s) (path : ByteArray) (hp : path.size ≤ 10000) (hb : ¬ (checkE path ≠ 0 ∨ checkD path = true)) (R : ByteArray × Int) (hR : R = realP s path) :
  Calls Tryz.prog 35 #[.slice A s.length c, .string path] W fun e w' => e = .returned (.tuple #[.string R.1, .int .i64 R.2]) ∧ Below W.heap.size W w' := by
 have HCK := rcheck_next (Hi (Below.refl W.heap.size W)) path (by omega);have HER := Hi (fun h => hR.trans (real_err hb h));have HLO := Hi (fun h1 h2 => hR.trans (real_long (s := s) hb h1 h2));have HGO := Hi (fun h1 h2 => hR.trans (real_good (s := s) hb h1 h2));clear hR;have hE : checkE path = 0 := Classical.byContradiction fun h => hb (.inl h)
 have hD : checkD path = false := by cases h : checkD path with | false => rfl | true => exact absurd (Or.inr h) hb
 rw [hE, hD] at HCK;replace HCK := Hi HCK;have hne := checkP_ne hE;have hps := checkP_size path;have hpp := parts_pos hne;have HPT := Hi (fun w => rparts_row (checkP path) w (by omega));have hcnt := partsT_count (checkP path);have hFR := parts_free (checkP path);have hLE := partsT_le (checkP path);have hlast := lastB_at hpp;have hEND := endW_take s path;have hwok : WOk (endW s path) := by rw [hEND]; exact fold_ok hT.paths 16 _ _ (fun p hp => hFR p (List.mem_of_mem_take hp)) wok_start
 generalize endW s path = wE at *;clear hE hD hb hne;generalize checkP path = P at *;generalize partsT P = ps at *;obtain ⟨M, hM⟩ : ∃ M, ps.length = M + 1 := ⟨ps.length - 1, by omega⟩;replace hlast : lastB ps = ps[M]'(by omega) := by rw [hlast]; congr 1; omega
 rw [show ps.length - 1 = M by omega] at hEND;rw [hlast] at HLO HGO;replace hcnt : M ≤ 10000 := by omega
 have HFR := Hi hFR;have HLE := Hi hLE;have HEND := Hi hEND;have HT := Hi hT;have HI := Hi hI;clear hFR hLE hEND hT hI;go_enter Tryz.func35, Tryz.ntmps35
 go_wp2_with fail
 refine HCK.out.mono ?_;rintro e w1 ⟨rfl, HB1⟩;clear HCK
 go_wp2_with fail
 refine (HPT.out w1).mono ?_;rintro e w2 ⟨vp, rfl, hrp, hb2⟩;obtain ⟨Ap, cp, hvp, hcp, hCp⟩ := Kd.R_reads hrp;subst hvp;have HB2 := Hi (below_next HB1.out hb2);have HTK := Kd.R_take hrp (m := M) (by omega);have hMl : M < ps.length := by omega
 obtain ⟨ad, hap, ec⟩ := str_at hCp hMl;subst hap;have hlt := (Kd.R_reads' HTK).2.2;have htl : (ps.take M).length = M := by rw [List.length_take]; omega
 have HLD := lead_any s HT.out 16 w2 A c ⟨#[]⟩ (ps.take M) (some ad) cp 0 (Kd.C_below HI.out HB2.out) hlt (by omega) wok_start (fun p hp => HFR.out p (List.mem_of_mem_take hp)) (fun p hp => Nat.le_trans (HLE.out p (List.mem_of_mem_take hp)) (by omega));rw [← HEND.out, htl] at HLD;replace HLD := Hi HLD;have hsy := HLE.out _ (List.getElem_mem hMl);rw [hM] at hcp ⊢;generalize ps[M] = y at *;obtain ⟨u, k, E⟩ := wE;have EC := Hi ec;clear hrp hb2 hCp HTK hlt HPT HB1 HEND htl ec hlast;have hw1 : Go.RowKit.wrap64 ((M : Int) + 1 - 1) = (M : Int) := by unfold Go.RowKit.wrap64; omega
 have hw2 : Go.RowKit.wrap64 (M : Int) = (M : Int) := by unfold Go.RowKit.wrap64; omega
 have hm1 : (M : Int) ≤ (M : Int) + 1 := by omega
 have hm3 : (M : Int) < (M : Int) + 1 := by omega
 have hm2 : (0 : Int) ≤ (M : Int) + 1 - 1 := by omega
 have hm4 : (M : Int) ≤ (cp : Int) := by omega
 by_cases hE : E = 0
 ·
  subst hE;rw [leadW_ok rfl] at HLD;have hu : u.size ≤ 9000 := hwok.size;have hjs := join_size u y;have HJ := Hi (fun w => rjoin_any u y w (by omega) (by omega));have HCK2 := Hi (fun w6 (h6 : Hid (Below W.heap.size W w6)) => rcheck_next h6 (joinS u y) (by omega));replace HLO := Hi (HLO.out (fun h => h rfl));replace HGO := Hi (HGO.out (fun h => h rfl));clear HER hjs
  go_wp2_with fail
  refine HLD.out.mono ?_;rintro e w3 ⟨rfl, hb3⟩;have HB3 := Hi (below_next HB2.out hb3);have ec3 := pw_cell_below hb3 EC.out;clear hb3 HLD
  go_wp2_with fail
  refine (HJ.out w3).mono ?_;rintro e w4 ⟨rfl, hb4⟩;have HB4 := Hi (below_next HB3.out hb4);clear hb4 HJ;generalize joinS u y = rl at *;generalize checkE rl = e2 at *
  by_cases he2 : e2 = 0
  ·
   subst he2;have HRR := Hi (HGO.out (fun h => h rfl))
   go_wp2_with fail
   refine (HCK2.out _ HB4).mono ?_;rintro e w8 ⟨rfl, HB8⟩;go_wp2;go_ret2;exact ⟨by rw [HRR.out]; rfl, HB8.out⟩
  have q0 : (e2 == 0) = false := beq_eq_false_iff_ne.2 he2;have q1 : (e2 != 0) = true := bne_iff_ne.2 he2;have HRR := Hi (HLO.out he2)
  go_wp2_with fail
  refine (HCK2.out _ HB4).mono ?_;rintro e w8 ⟨rfl, HB8⟩;go_wp2;go_ret2;exact ⟨by rw [HRR.out]; rfl, HB8.out⟩
 have q0 : (E == 0) = false := beq_eq_false_iff_ne.2 hE;have q1 : (E != 0) = true := bne_iff_ne.2 hE;have HRR := Hi (HER.out hE)
 go_wp2_with fail
 refine HLD.out.mono ?_;rintro e w3 ⟨rfl, hb3⟩;have HB3 := Hi (below_next HB2.out hb3);clear hb3 HLD;go_wp2;go_ret2;exact ⟨by rw [HRR.out]; rfl, HB3.out⟩
theorem rreal_any (s : List It) (hT : Tree15 s) (W : World) (A : Option Addr) (c : Nat) (hI : ItemC W A s) (path : ByteArray) (hp : path.size ≤ 10000) :
  Calls Tryz.prog 35 #[.slice A s.length c, .string path] W fun e w' => e = .returned (.tuple #[.string (realP s path).1, .int .i64 (realP s path).2]) ∧ Below W.heap.size W w' := by
 by_cases hb : checkE path ≠ 0 ∨ checkD path = true
 ·
  rw [real_bad hb];exact rreal_fell s hT W A c hI path hp hb
 exact rreal_rest s hT W A c hI path hp hb _ rfl
end Go.Proofs.YtibmfjacfbpfgaaGreatDoor.RReal
namespace Go.Proofs.YtibmfjacfbpfgaaGreatDoor.RSum
open Go.RowKit YtibmfjacfbpfgaaGreatDoorW PrintWords PrintLast PrintMore NameLaw NameCmp NameWalk YtibmfjacfbpfgaaGreatDoor.Item Own TreeLaw SortIns RealLaw DoneLaw KeepLaw OpLaw DAt
theorem rsum_any (s : List It) (A : Option Addr) (c : Nat) (p : ByteArray) (m : Int) (W : World) (hl : ItemC W A s) (hn : s.length ≤ 1000000) (hs : ∀ x ∈ s, x.2.2.2.2.2.2.2.size ≤ 1000000) (hm : 0 ≤ m) (hm2 : m ≤ 1000000) :
  Calls Tryz.prog 119 #[.slice A s.length c, .string p, .int .i64 m] W fun e w' => e = .returned (.int .i64 (m + (sumO s p : Int))) ∧ Below W.heap.size W w' := by
 have HL := Hi hl;have HS := Hi hs;have hbd := sum_bound p s hs;have HSB := Hi hbd;obtain ⟨R, hR⟩ : ∃ R, R = m + sumP p s := ⟨_, rfl⟩;have HR0 := Hi (show m + sumP p (s.drop 0) = R from hR.symm);have hRb : 0 ≤ R ∧ R ≤ 1000000000001000000 := by omega
 rw [← sumP_sumO, ← hR];clear hR hl hs hbd;go_enter Tryz.func119, Tryz.ntmps119;go_wp2
 go_loopw [7, 13] (fun v i wr => ∃ (k : Nat) (a : Int), k ≤ s.length ∧ i = .int .i64 k ∧ v = .int .i64 a ∧ 0 ≤ a ∧ a ≤ 1000000 * k + 1000000 ∧ Hid (a + sumP p (s.drop k) = R) ∧ Hid (Below W.heap.size W wr)) (fun v i _ => s.length - (intOf i).toNat)
 case atStart => exact ⟨0, m, by omega, rfl, rfl, hm, by omega, HR0, Hi (Below.refl _ _)⟩
 clear HR0;obtain ⟨k, a, hk, rfl, rfl, ha0, ha1, HR, HB⟩ := hrel
 by_cases hlt : k < s.length
 ·
  obtain ⟨ad, rfl, e0, e1, e2, e3, e4, e5, e6, e7⟩ := item_at (Kd.C_below HL.out HB.out) hlt;have hltI : (k : Int) < s.length := by omega
  have hR := HR.out;rw [List.drop_eq_getElem_cons hlt] at hR;have hsz := HS.out _ (List.getElem_mem hlt);clear HR;generalize s[k] = x at *;obtain ⟨pa, kd, mo, ui, gi, mt, at_, da⟩ := x;simp only at e0 e1 e2 e3 e4 e5 e6 e7 hsz;rw [sum_cons] at hR
  (try simp only at hR)
  have HB3 := Hi (HB.out.alloc HB.out.size (.cells #[.string pa, .int .i64 kd, .int .u32 mo, .int .u32 ui, .int .u32 gi, .int .i64 mt, .int .i64 at_, .string da] 77))
  by_cases hp : pa = p
  ·
   rw [if_pos hp] at hR;subst hp;have HR := Hi (show a + sumP pa (s.drop (k + 1)) = R by omega);have ql : (pa.toList == pa.toList) = true := by simp
   clear hR;go_wp2;go_roundw
   case rel => exact ⟨k + 1, a, by omega, by go_num, rfl, ha0, by omega, HR, HB3⟩
   case measure => simp [intOf]; omega
  rw [if_neg hp] at hR;have HR := Hi (show (a + (da.size : Int)) + sumP p (s.drop (k + 1)) = R by omega);have ql : (pa.toList == p.toList) = false := by rw [toList_inj]; exact decide_eq_false hp
  have hw : Go.RowKit.wrap64 (a + (da.size : Int)) = a + (da.size : Int) := by unfold Go.RowKit.wrap64; omega
  clear hR;go_wp2;go_roundw
  case rel => exact ⟨k + 1, a + (da.size : Int), by omega, by go_num, rfl, by omega, by omega, HR, HB3⟩
  case measure => simp [intOf]; omega
 have HS2 := Hi (show a = R by rw [← HR.out, List.drop_of_length_le (by omega)]; simp [sumP]);go_wp2;go_ret;exact ⟨by rw [HS2.out]; rfl, HB.out⟩
end Go.Proofs.YtibmfjacfbpfgaaGreatDoor.RSum
namespace Go.Proofs.YtibmfjacfbpfgaaGreatDoor.ROwnA
open Go.RowKit YtibmfjacfbpfgaaGreatDoorW PrintWords PrintLast PrintMore NameLaw NameWalk NameRef NameUse YtibmfjacfbpfgaaGreatDoor.Item Own NodeRes TreeLaw TreeRef SortIns SortSwap FillLaw DiffLaw RealLaw RealKeep KeepLaw OpLaw OpKeep DkLaw OwnLeaf DSmall DSync RLead RReal RDisk RSum
theorem doc_below {W0 W W1 : World} {b : Nat} {vb vw : Value} {d : Dk} {m : Nat} (h : Doc W0 W b vb vw d m) (hb : Below W.heap.size W W1) : Doc W0 W1 b vb vw d m := ⟨below_next h.low hb, h.at_.below hb, h.trees, h.bnd⟩
def RPost (W0 W : World) (b : Nat) (vb vw : Value) (r : Int × Dk) (e : Ending) (w' : World) : Prop :=
 e = .returned (.int .i64 r.1) ∧ ∃ vb1 vw1, RAt w' W0.heap.size b vb1 vw1 r.2 ∧ Still W w' (ROwns b vb vw) (ROwns b vb1 vw1)
theorem rpost_same {W0 W W1 : World} {b : Nat} {vb vw : Value} {d : Dk} {m : Nat} {r : Int} (h : Doc W0 W1 b vb vw d m) (hb : Below W.heap.size W W1) : RPost W0 W b vb vw (r, d) (.returned (.int .i64 r)) W1 := ⟨rfl, vb, vw, h.at_, Still.below hb _⟩
theorem infoRCh : (Tryz.prog.info? 121).map (fun i => (i.zero, i.size, i.bytes)) = some (some (.agg #[.int .i64 0, .string ByteArray.empty, .string ByteArray.empty, .int .i64 0, .int .u32 0, .int .u32 0, .int .u32 0, .int .i64 0, .int .i64 0, .string ByteArray.empty, .bool false]), 11, 104) := by kernel_rfl
section
variable {W W1 : World} {n b : Nat} {vb vw v1 : Value} {d : Dk}
theorem rwaits (h : RAt W n b vb vw d) {q1 : List Chg} (hr : chK.R 121 W1 n (fun _ => True) v1 q1) (hg : W.grownBy W1 vw.ownBlock) : RAt (W1.setCell ⟨b, 1, none⟩ v1) n b vb v1 { d with waits := q1 } := by
 have hbn : some b ≠ vw.ownBlock := Kd.R_ne h.rw h.blk (by decide);have at1 := (hg.block b h.lt hbn).trans h.blk;refine ⟨blk_put at1 1 v1 rfl, Kd.R_set (Kd.R_grown2 h.rb rfl hg (fun k hk => ?_)) at1 (by decide) 1 v1, Kd.R_set hr at1 (by decide) 1 v1, h.nb⟩;obtain ⟨inner, ho⟩ := Kd.R_own h.rw;obtain ⟨cells, hc⟩ := own_typed ho k hk;exact Kd.R_ne h.rb hc (by decide)
theorem rbase (h : RAt W n b vb vw d) {l1 : List It} (hr : itemK.R 77 W n (fun _ => True) v1 l1) : RAt (W.setCell ⟨b, 0, none⟩ v1) n b v1 vw { d with base := l1 } :=
 ⟨blk_put h.blk 0 v1 rfl, Kd.R_set hr h.blk (by decide) 0 v1, Kd.R_set h.rw h.blk (by decide) 0 v1, h.nb⟩
theorem still_rwaits (b : Nat) (vb : Value) (hg : W.grownBy W1 vw.ownBlock) (ha : v1.ownBlock = vw.ownBlock ∨ ∃ k, v1.ownBlock = some k ∧ W.heap.size ≤ k) (u : Value) : Still W (W1.setCell ⟨b, 1, none⟩ u) (ROwns b vb vw) (ROwns b vb v1) :=
 Still.trans (S1 := ROwns b vb v1) (Still.grown hg (fun k e => .inr (.inr e)) (fun k hk => by
  rcases hk with e | e | e
  ·
   exact .inl (.inl e)
  ·
   exact .inl (.inr (.inl e))
  rcases ha with o | ⟨g, o, hg⟩
  ·
   exact .inl (.inr (.inr (o ▸ e)))
  rw [o] at e; injection e with e; exact .inr (e ▸ hg))) (Still.grown (set_grown W1 b 1 u) (fun k e => .inl (by injection e with e; exact e.symm)) (fun k h => .inl h))
theorem still_rset (W : World) (b j : Nat) (u vb vw : Value) : Still W (W.setCell ⟨b, j, none⟩ u) (ROwns b vb vw) (ROwns b vb vw) := Still.grown (set_grown W b j u) (fun k e => .inl (by injection e with e; exact e.symm)) (fun k h => .inl h)
theorem rnew_row {l1 : List It} (hn : n ≤ W.heap.size) (hr : itemK.R 77 W1 W.heap.size (fun _ => True) v1 l1) : itemK.R 77 W1 n (fun _ => True) v1 l1 := Kd.R_lower hr hn
end
end Go.Proofs.YtibmfjacfbpfgaaGreatDoor.ROwnA
