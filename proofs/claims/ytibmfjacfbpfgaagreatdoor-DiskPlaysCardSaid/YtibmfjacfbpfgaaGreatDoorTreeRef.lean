/- the document's Find, kind, Right. -/
import Derived.Test.YtibmfjacfbpfgaaGreatDoorTree
import Derived.Test.YtibmfjacfbpfgaaGreatDoorNameB
set_option maxHeartbeats 32000000
set_option linter.unusedVariables false
set_option linter.unusedSimpArgs false
namespace Go.Proofs.YtibmfjacfbpfgaaGreatDoor.TreeRef
open Go.RowKit YtibmfjacfbpfgaaGreatDoorW PrintWords PrintLast PrintMore YtibmfjacfbpfgaaGreatDoor.Item Own TreeLaw NameLaw NameWalk NameOrd NameRef NameUse SortSwap SortIns TreeFn TreeDel NodeRes
theorem findP_drop {l : List It} {s : ByteArray} {k : Nat} (h : k < l.length) : findP (l.drop k) s = if isAt s l[k] = true then some l[k] else findP (l.drop (k + 1)) s := by
 rw [List.drop_eq_getElem_cons h];unfold findP;rw [List.find?_cons]
 cases isAt s l[k] <;> rfl
set_option maxRecDepth 100000 in
theorem rfind_any (l : List It) (A : Option Addr) (c : Nat) (s : ByteArray) (W : World) (hl : ItemC W A l) :
  Calls Tryz.prog 21 #[.slice A l.length c, .string s] W fun e w' => e = .returned (.tuple #[aggN (nodeOf (findP l s)), .bool (findP l s).isSome]) ∧ Below W.heap.size W w' := by
 have hb1 := below_one W (.cells #[.int .i64 0, .int .u32 0, .int .u32 0, .int .u32 0, .int .i64 0, .int .i64 0, .string ⟨#[]⟩] 34);have HB1 := Hi hb1;have HH1 := Hi (heap_new W (.cells #[.int .i64 0, .int .u32 0, .int .u32 0, .int .u32 0, .int .i64 0, .int .i64 0, .string ⟨#[]⟩] 34));have HL := Hi (Kd.C_below hl hb1);have l1 := hl.2.1;have HF0 : Hid (findP (l.drop 0) s = findP l s) := Hi rfl;clear hb1 hl;go_enter Tryz.func21, Tryz.ntmps21;go_wp2;generalize W.alloc (.cells #[.int .i64 0, .int .u32 0, .int .u32 0, .int .u32 0, .int .i64 0, .int .i64 0, .string ⟨#[]⟩] 34) = U at *;generalize hbn : W.heap.size = bn at *
 go_loopw [7, 10] (fun vt v wr => ∃ k : Nat, k ≤ l.length ∧ v = .int .i64 k ∧ Hid (findP (l.drop k) s = findP l s) ∧ Hid (Below U.heap.size U wr)) (fun vt v _ => l.length - (intOf v).toNat)
 case atStart => exact ⟨0, by omega, rfl, HF0, Hi (Below.refl _ _)⟩
 clear HF0;obtain ⟨k, hk, rfl, HF, HB⟩ := hrel;have hhn := Own.kp HB.out HH1.out
 by_cases hlt : k < l.length
 ·
  obtain ⟨ad, rfl, e0, e1, e2, e3, e4, e5, e6, e7⟩ := item_at (Kd.C_below HL.out HB.out) hlt;have hltI : (k : Int) < l.length := by omega
  have hf := HF.out;rw [findP_drop hlt] at hf;clear HF;generalize l[k] = x at *;obtain ⟨x0, x1, x2, x3, x4, x5, x6, x7⟩ := x;simp only at e0 e1 e2 e3 e4 e5 e6 e7;have c0 : (wr.alloc (.cells #[.string x0, .int .i64 x1, .int .u32 x2, .int .u32 x3, .int .u32 x4, .int .i64 x5, .int .i64 x6, .string x7] 77)).cell? ⟨wr.heap.size, 0, none⟩ = some (.string x0) := by rw [cell_of (heap_new wr _)]; rfl
  have c1 : (wr.alloc (.cells #[.string x0, .int .i64 x1, .int .u32 x2, .int .u32 x3, .int .u32 x4, .int .i64 x5, .int .i64 x6, .string x7] 77)).cell? ⟨wr.heap.size, 1, none⟩ = some (.int .i64 x1) := by rw [cell_of (heap_new wr _)]; rfl
  have c2 : (wr.alloc (.cells #[.string x0, .int .i64 x1, .int .u32 x2, .int .u32 x3, .int .u32 x4, .int .i64 x5, .int .i64 x6, .string x7] 77)).cell? ⟨wr.heap.size, 2, none⟩ = some (.int .u32 x2) := by rw [cell_of (heap_new wr _)]; rfl
  have c3 : (wr.alloc (.cells #[.string x0, .int .i64 x1, .int .u32 x2, .int .u32 x3, .int .u32 x4, .int .i64 x5, .int .i64 x6, .string x7] 77)).cell? ⟨wr.heap.size, 3, none⟩ = some (.int .u32 x3) := by rw [cell_of (heap_new wr _)]; rfl
  have c4 : (wr.alloc (.cells #[.string x0, .int .i64 x1, .int .u32 x2, .int .u32 x3, .int .u32 x4, .int .i64 x5, .int .i64 x6, .string x7] 77)).cell? ⟨wr.heap.size, 4, none⟩ = some (.int .u32 x4) := by rw [cell_of (heap_new wr _)]; rfl
  have c5 : (wr.alloc (.cells #[.string x0, .int .i64 x1, .int .u32 x2, .int .u32 x3, .int .u32 x4, .int .i64 x5, .int .i64 x6, .string x7] 77)).cell? ⟨wr.heap.size, 5, none⟩ = some (.int .i64 x5) := by rw [cell_of (heap_new wr _)]; rfl
  have c6 : (wr.alloc (.cells #[.string x0, .int .i64 x1, .int .u32 x2, .int .u32 x3, .int .u32 x4, .int .i64 x5, .int .i64 x6, .string x7] 77)).cell? ⟨wr.heap.size, 6, none⟩ = some (.int .i64 x6) := by rw [cell_of (heap_new wr _)]; rfl
  have c7 : (wr.alloc (.cells #[.string x0, .int .i64 x1, .int .u32 x2, .int .u32 x3, .int .u32 x4, .int .i64 x5, .int .i64 x6, .string x7] 77)).cell? ⟨wr.heap.size, 7, none⟩ = some (.string x7) := by rw [cell_of (heap_new wr _)]; rfl
  have hb2 := below_one wr (.cells #[.string x0, .int .i64 x1, .int .u32 x2, .int .u32 x3, .int .u32 x4, .int .i64 x5, .int .i64 x6, .string x7] 77);have HB2 := Hi (below_next_ HB.out hb2);have hhn2 := Own.kp hb2 hhn;have HN := Hi hhn2;have d0 : (wr.alloc (.cells #[.string x0, .int .i64 x1, .int .u32 x2, .int .u32 x3, .int .u32 x4, .int .i64 x5, .int .i64 x6, .string x7] 77)).cell? ⟨bn, 0, none⟩ = some (.int .i64 0) := by rw [cell_of HN.out]; rfl
  have z0 := frozen_of HN.out 0;have d1 : (wr.alloc (.cells #[.string x0, .int .i64 x1, .int .u32 x2, .int .u32 x3, .int .u32 x4, .int .i64 x5, .int .i64 x6, .string x7] 77)).cell? ⟨bn, 1, none⟩ = some (.int .u32 0) := by rw [cell_of HN.out]; rfl
  have z1 := frozen_of HN.out 1;have d2 : (wr.alloc (.cells #[.string x0, .int .i64 x1, .int .u32 x2, .int .u32 x3, .int .u32 x4, .int .i64 x5, .int .i64 x6, .string x7] 77)).cell? ⟨bn, 2, none⟩ = some (.int .u32 0) := by rw [cell_of HN.out]; rfl
  have z2 := frozen_of HN.out 2;have d3 : (wr.alloc (.cells #[.string x0, .int .i64 x1, .int .u32 x2, .int .u32 x3, .int .u32 x4, .int .i64 x5, .int .i64 x6, .string x7] 77)).cell? ⟨bn, 3, none⟩ = some (.int .u32 0) := by rw [cell_of HN.out]; rfl
  have z3 := frozen_of HN.out 3;have d4 : (wr.alloc (.cells #[.string x0, .int .i64 x1, .int .u32 x2, .int .u32 x3, .int .u32 x4, .int .i64 x5, .int .i64 x6, .string x7] 77)).cell? ⟨bn, 4, none⟩ = some (.int .i64 0) := by rw [cell_of HN.out]; rfl
  have z4 := frozen_of HN.out 4;have d5 : (wr.alloc (.cells #[.string x0, .int .i64 x1, .int .u32 x2, .int .u32 x3, .int .u32 x4, .int .i64 x5, .int .i64 x6, .string x7] 77)).cell? ⟨bn, 5, none⟩ = some (.int .i64 0) := by rw [cell_of HN.out]; rfl
  have z5 := frozen_of HN.out 5;have d6 : (wr.alloc (.cells #[.string x0, .int .i64 x1, .int .u32 x2, .int .u32 x3, .int .u32 x4, .int .i64 x5, .int .i64 x6, .string x7] 77)).cell? ⟨bn, 6, none⟩ = some (.string ⟨#[]⟩) := by rw [cell_of HN.out]; rfl
  have z6 := frozen_of HN.out 6;clear hb2 hhn hhn2
  by_cases hq : x0 = s
  ·
   have q0 : (x0.toList == s.toList) = true := by rw [toList_inj]; exact decide_eq_true hq
   rw [if_pos (show isAt s (x0, x1, x2, x3, x4, x5, x6, x7) = true from decide_eq_true hq)] at hf;have HF := Hi hf;clear hf hq;go_wp2;refine bodyPost_ret (results_row_tmp (ty := 34) rfl _ _ bn _ _ _ _ rfl (node_put HN.out _ _ _ _ _ _ _) Tryz.underlying34 rfl sizeNode) rfl ?_;refine ⟨by rw [← HF.out]; rfl, ?_⟩;subst hbn;refine node_below ?_ (Nat.le_refl _) (Nat.le_refl _) _ _ _ _ _ _ _;exact Below.trans HB1.out (HB2.out.mono HB1.out.size)
  have q0 : (x0.toList == s.toList) = false := by rw [toList_inj]; exact decide_eq_false hq
  rw [if_neg (show ¬ isAt s (x0, x1, x2, x3, x4, x5, x6, x7) = true from fun e => hq (of_decide_eq_true e))] at hf;have HF := Hi hf;clear hf hq;go_wp2;go_roundw
  case rel => exact ⟨k + 1, by omega, by go_num, HF, HB2⟩
  case measure => simp [intOf]; omega
 have HN := Hi hhn;have d0 : wr.cell? ⟨bn, 0, none⟩ = some (.int .i64 0) := by rw [cell_of HN.out]; rfl
 have z0 := frozen_of HN.out 0;have d1 : wr.cell? ⟨bn, 1, none⟩ = some (.int .u32 0) := by rw [cell_of HN.out]; rfl
 have z1 := frozen_of HN.out 1;have d2 : wr.cell? ⟨bn, 2, none⟩ = some (.int .u32 0) := by rw [cell_of HN.out]; rfl
 have z2 := frozen_of HN.out 2;have d3 : wr.cell? ⟨bn, 3, none⟩ = some (.int .u32 0) := by rw [cell_of HN.out]; rfl
 have z3 := frozen_of HN.out 3;have d4 : wr.cell? ⟨bn, 4, none⟩ = some (.int .i64 0) := by rw [cell_of HN.out]; rfl
 have z4 := frozen_of HN.out 4;have d5 : wr.cell? ⟨bn, 5, none⟩ = some (.int .i64 0) := by rw [cell_of HN.out]; rfl
 have z5 := frozen_of HN.out 5;have d6 : wr.cell? ⟨bn, 6, none⟩ = some (.string ⟨#[]⟩) := by rw [cell_of HN.out]; rfl
 have z6 := frozen_of HN.out 6;have HF2 : Hid (findP l s = none) := Hi (by rw [← HF.out, List.drop_of_length_le (by omega)]; rfl);clear hhn HF;go_wp2;refine bodyPost_ret (results_row_tmp (ty := 34) rfl _ _ bn _ _ _ _ rfl (node_put HN.out _ _ _ _ _ _ _) Tryz.underlying34 rfl sizeNode) rfl ?_;refine ⟨by rw [HF2.out]; rfl, ?_⟩;subst hbn;refine node_below ?_ (Nat.le_refl _) (Nat.le_refl _) _ _ _ _ _ _ _;exact Below.trans HB1.out (HB.out.mono HB1.out.size)
theorem rkind_any (l : List It) (A : Option Addr) (c : Nat) (s : ByteArray) (W : World) (hl : ItemC W A l) :
  Calls Tryz.prog 68 #[.slice A l.length c, .string s] W fun e w' => e = .returned (.int .i64 (kindOf l s)) ∧ Below W.heap.size W w' := by
 by_cases h0 : s.data.toList = []
 ·
  have hk : kindOf l s = 1 := by unfold kindOf; rw [if_pos h0]
  have hd : s.toList.isEmpty = true := by rw [Lib.toList_data, h0]; rfl
  have hd2 : (s.toList == []) = true := by rw [Lib.toList_data, h0]; rfl
  have HK := Hi hk;clear h0 hk hl;go_enter Tryz.func68, Tryz.ntmps68;go_wp2;go_ret;exact ⟨by rw [HK.out]; rfl, Below.refl _ _⟩
 have HF := Hi (rfind_any l A c s W hl)
 have HK := Hi (show kindOf l s = match findP l s with | none => 0 | some x => x.2.1 by unfold kindOf; rw [if_neg h0]; cases findP l s <;> rfl)
 have hd : s.toList.isEmpty = false := by rw [Lib.toList_data]; cases e : s.data.toList with
  | nil => exact absurd e h0
  | cons => rfl
 have hd2 : (s.toList == []) = false := by rw [Lib.toList_data]; cases e : s.data.toList with
  | nil => exact absurd e h0
  | cons => rfl
 clear h0 hl;generalize findP l s = o at *;go_enter Tryz.func68, Tryz.ntmps68
 go_wp2_with fail
 refine HF.out.mono ?_;rintro e w2 ⟨rfl, hb⟩;have HB := Hi hb;clear hb HF
 cases o with
 | none =>
  simp only [nodeOf, z7, aggN, Option.isSome];have hb3 := below_one w2 (.cells #[.int .i64 0, .int .u32 0, .int .u32 0, .int .u32 0, .int .i64 0, .int .i64 0, .string ByteArray.empty] 34);have HB3 := Hi (below_next HB.out hb3);clear hb3;go_wp2;go_ret;exact ⟨by rw [HK.out]; rfl, HB3.out⟩
 | some x =>
  obtain ⟨x0, x1, x2, x3, x4, x5, x6, x7⟩ := x;simp only [nodeOf, aggN, Option.isSome];have hb3 := below_one w2 (.cells #[.int .i64 x1, .int .u32 x2, .int .u32 x3, .int .u32 x4, .int .i64 x5, .int .i64 x6, .string x7] 34);have c0 : (w2.alloc (.cells #[.int .i64 x1, .int .u32 x2, .int .u32 x3, .int .u32 x4, .int .i64 x5, .int .i64 x6, .string x7] 34)).cell? ⟨w2.heap.size, 0, none⟩ = some (.int .i64 x1) := by rw [cell_of (heap_new w2 _)]; rfl
  have HB3 := Hi (below_next HB.out hb3);clear hb3;go_wp2;go_ret;exact ⟨by rw [HK.out]; rfl, HB3.out⟩
end Go.Proofs.YtibmfjacfbpfgaaGreatDoor.TreeRef
