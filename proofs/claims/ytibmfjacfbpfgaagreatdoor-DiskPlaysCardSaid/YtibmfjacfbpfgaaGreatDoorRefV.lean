/- the document's Stat. -/
import Derived.Test.YtibmfjacfbpfgaaGreatDoorRefD
import Derived.Test.YtibmfjacfbpfgaaGreatDoorDiskB
import Derived.Test.YtibmfjacfbpfgaaGreatDoorStepG
set_option maxHeartbeats 32000000
set_option maxRecDepth 100000
set_option linter.unusedVariables false
set_option linter.unusedSimpArgs false
namespace Go.Proofs.YtibmfjacfbpfgaaGreatDoor.RStat
open Go.RowKit YtibmfjacfbpfgaaGreatDoorW PrintWords PrintLast PrintMore NameLaw NameWalk NameRef NameUse YtibmfjacfbpfgaaGreatDoor.Item Own NodeRes TreeLaw TreeNodes TreeRef SortIns SortSwap FillLaw DiffLaw RealLaw RealKeep KeepLaw OpLaw OpKeep DkLaw DSmall DSync RLead RReal RDisk ROwnA DStat
theorem rstat_any (W0 W : World) (b : Nat) (vb vw : Value) (d : Dk) (m : Nat) (hD : Doc W0 W b vb vw d m) (hm : m ≤ 700000) (path : ByteArray) (hp : path.size ≤ 10000) :
  Calls Tryz.prog 32 #[.pointer (some ⟨b, 0, none⟩), .string path] W fun e w' => e = .returned (.tuple #[aggNd (statP d.shows path).1, .int .i64 (statP d.shows path).2]) ∧ Below W.heap.size W w' := by
 have hb1 := below_one W (.cells #[.int .i64 0, .int .u32 0, .int .u32 0, .int .u32 0, .int .i64 0, .int .i64 0, .string ⟨#[]⟩] 34);have HB1 := Hi hb1;have HN1 := Hi (heap_new W (.cells #[.int .i64 0, .int .u32 0, .int .u32 0, .int .u32 0, .int .i64 0, .int .i64 0, .string ⟨#[]⟩] 34));have hsh := hD.bnd.shows;have HT := Hi (doc_tree (Trees.shows hD.trees) hsh.1 (by omega) hsh.2);have HSH := Hi (rshows_any W0 (W.alloc (.cells #[.int .i64 0, .int .u32 0, .int .u32 0, .int .u32 0, .int .i64 0, .int .i64 0, .string ⟨#[]⟩] 34)) b vb vw d m (doc_below hD hb1) (by omega));have HL0 := Hi (stat_err (s := d.shows) (path := path));have HL1 := Hi (stat_none (s := d.shows) (path := path));have HL2 := Hi (fun h x h1 => stat_some (s := d.shows) (path := path) h (x := x) h1);clear hb1 hD hsh;generalize statP d.shows path = X at *;go_enter Tryz.func32, Tryz.ntmps32
 go_wp2_with fail
 generalize W.alloc (.cells #[.int .i64 0, .int .u32 0, .int .u32 0, .int .u32 0, .int .i64 0, .int .i64 0, .string ⟨#[]⟩] 34) = w1 at *;refine HSH.out.mono ?_;rintro e w2 ⟨v2, rfl, hr2, hb2⟩;obtain ⟨A, c, hv⟩ := Kd.R_slice hr2;subst hv;have HC2 := Hi (Kd.R_reads' hr2).2.2;have HB2 := Hi (below_next HB1.out hb2);have HN2 := Hi (Own.kp hb2 HN1.out);clear hr2 hb2 HSH HB1 HN1;have HRL := Hi (rreal_any d.shows HT.out w2 A c HC2.out path (by omega));generalize realP d.shows path = R at *;obtain ⟨R0, R1⟩ := R;simp only at HRL HL0 HL1 HL2
 go_wp2_with fail
 refine HRL.out.mono ?_;rintro e w3 ⟨rfl, hb3⟩;have HB3 := Hi (below_next HB2.out hb3);have HN3 := Hi (Own.kp hb3 HN2.out);have HC3 := Hi (Kd.C_below HC2.out hb3);clear hb3 HRL HN2 HB2 HC2;generalize hbn : W.heap.size = bn at *
 by_cases her : R1 = 0
 ·
  subst her;replace HL1 := Hi (HL1.out rfl);replace HL2 := Hi (HL2.out rfl);have HFD := rfind_any d.shows A c R0 w3 HC3.out;unfold aggN at HFD;clear HL0
  cases hf : findP d.shows R0 with
  | none =>
   have hz : nodeOf (none : Option It) = (0, 0, 0, 0, 0, 0, ByteArray.empty) := rfl;rw [hf, hz] at HFD;simp only [Option.isSome_none] at HFD;replace HFD := Hi HFD;have HX := Hi (HL1.out hf);clear hf hz
   go_wp2_with fail
   refine HFD.out.mono ?_;rintro e w4 ⟨rfl, hb4⟩;have hb5 := below_one w4 (.cells #[.int .i64 0, .int .u32 0, .int .u32 0, .int .u32 0, .int .i64 0, .int .i64 0, .string ByteArray.empty] 34);have HB5 := Hi (HB3.out.trans ((hb4.trans (hb5.mono hb4.size)).mono (by rw [← hbn]; exact HB3.out.size)));have HN5 := Hi ((hb5.block bn (Nat.lt_of_lt_of_le (Own.lo HN3.out) hb4.size)).trans (Own.kp hb4 HN3.out));have HM5 := Hi (heap_new w4 (.cells #[.int .i64 0, .int .u32 0, .int .u32 0, .int .u32 0, .int .i64 0, .int .i64 0, .string ByteArray.empty] 34));skip;clear hb4 hb5 HFD HL1 HL2;have c0 : (w4.alloc (.cells #[.int .i64 0, .int .u32 0, .int .u32 0, .int .u32 0, .int .i64 0, .int .i64 0, .string ByteArray.empty] 34)).cell? ⟨bn, 0, none⟩ = some (.int .i64 0) := by rw [cell_of HN5.out]; rfl
   have z0 := frozen_of HN5.out 0;have c1 : (w4.alloc (.cells #[.int .i64 0, .int .u32 0, .int .u32 0, .int .u32 0, .int .i64 0, .int .i64 0, .string ByteArray.empty] 34)).cell? ⟨bn, 1, none⟩ = some (.int .u32 0) := by rw [cell_of HN5.out]; rfl
   have z1 := frozen_of HN5.out 1;have c2 : (w4.alloc (.cells #[.int .i64 0, .int .u32 0, .int .u32 0, .int .u32 0, .int .i64 0, .int .i64 0, .string ByteArray.empty] 34)).cell? ⟨bn, 2, none⟩ = some (.int .u32 0) := by rw [cell_of HN5.out]; rfl
   have z2 := frozen_of HN5.out 2;have c3 : (w4.alloc (.cells #[.int .i64 0, .int .u32 0, .int .u32 0, .int .u32 0, .int .i64 0, .int .i64 0, .string ByteArray.empty] 34)).cell? ⟨bn, 3, none⟩ = some (.int .u32 0) := by rw [cell_of HN5.out]; rfl
   have z3 := frozen_of HN5.out 3;have c4 : (w4.alloc (.cells #[.int .i64 0, .int .u32 0, .int .u32 0, .int .u32 0, .int .i64 0, .int .i64 0, .string ByteArray.empty] 34)).cell? ⟨bn, 4, none⟩ = some (.int .i64 0) := by rw [cell_of HN5.out]; rfl
   have z4 := frozen_of HN5.out 4;have c5 : (w4.alloc (.cells #[.int .i64 0, .int .u32 0, .int .u32 0, .int .u32 0, .int .i64 0, .int .i64 0, .string ByteArray.empty] 34)).cell? ⟨bn, 5, none⟩ = some (.int .i64 0) := by rw [cell_of HN5.out]; rfl
   have z5 := frozen_of HN5.out 5;have c6 : (w4.alloc (.cells #[.int .i64 0, .int .u32 0, .int .u32 0, .int .u32 0, .int .i64 0, .int .i64 0, .string ByteArray.empty] 34)).cell? ⟨bn, 6, none⟩ = some (.string ⟨#[]⟩) := by rw [cell_of HN5.out]; rfl
   have z6 := frozen_of HN5.out 6;obtain ⟨m0, m1, m2, m3, m4, m5, m6⟩ := Own.cs7 HM5.out;go_wp2;refine bodyPost_ret (results_row_tmp (ty := 34) rfl _ _ bn _ _ _ _ rfl (node_put HN5.out _ _ _ _ _ _ _) Tryz.underlying34 rfl sizeNode) rfl ?_;subst hbn;refine ⟨by rw [HX.out]; rfl, ?_⟩;exact node_below HB5.out (Nat.le_refl _) (Nat.le_refl _) _ _ _ _ _ _ _
  | some x =>
   obtain ⟨px, n0, n1, n2, n3, n4, n5, n6⟩ := x;have hz : nodeOf (some (px, n0, n1, n2, n3, n4, n5, n6) : Option It) = (n0, n1, n2, n3, n4, n5, n6) := rfl;rw [hf, hz] at HFD;simp only [Option.isSome_some] at HFD;replace HFD := Hi HFD;have HX := Hi (HL2.out _ hf);clear hf hz
   go_wp2_with fail
   refine HFD.out.mono ?_;rintro e w4 ⟨rfl, hb4⟩;have hb5 := below_one w4 (.cells #[.int .i64 n0, .int .u32 n1, .int .u32 n2, .int .u32 n3, .int .i64 n4, .int .i64 n5, .string n6] 34);have HB5 := Hi (HB3.out.trans ((hb4.trans (hb5.mono hb4.size)).mono (by rw [← hbn]; exact HB3.out.size)));have HN5 := Hi ((hb5.block bn (Nat.lt_of_lt_of_le (Own.lo HN3.out) hb4.size)).trans (Own.kp hb4 HN3.out));have HM5 := Hi (heap_new w4 (.cells #[.int .i64 n0, .int .u32 n1, .int .u32 n2, .int .u32 n3, .int .i64 n4, .int .i64 n5, .string n6] 34));skip;clear hb4 hb5 HFD HL1 HL2;have c0 : (w4.alloc (.cells #[.int .i64 n0, .int .u32 n1, .int .u32 n2, .int .u32 n3, .int .i64 n4, .int .i64 n5, .string n6] 34)).cell? ⟨bn, 0, none⟩ = some (.int .i64 0) := by rw [cell_of HN5.out]; rfl
   have z0 := frozen_of HN5.out 0;have c1 : (w4.alloc (.cells #[.int .i64 n0, .int .u32 n1, .int .u32 n2, .int .u32 n3, .int .i64 n4, .int .i64 n5, .string n6] 34)).cell? ⟨bn, 1, none⟩ = some (.int .u32 0) := by rw [cell_of HN5.out]; rfl
   have z1 := frozen_of HN5.out 1;have c2 : (w4.alloc (.cells #[.int .i64 n0, .int .u32 n1, .int .u32 n2, .int .u32 n3, .int .i64 n4, .int .i64 n5, .string n6] 34)).cell? ⟨bn, 2, none⟩ = some (.int .u32 0) := by rw [cell_of HN5.out]; rfl
   have z2 := frozen_of HN5.out 2;have c3 : (w4.alloc (.cells #[.int .i64 n0, .int .u32 n1, .int .u32 n2, .int .u32 n3, .int .i64 n4, .int .i64 n5, .string n6] 34)).cell? ⟨bn, 3, none⟩ = some (.int .u32 0) := by rw [cell_of HN5.out]; rfl
   have z3 := frozen_of HN5.out 3;have c4 : (w4.alloc (.cells #[.int .i64 n0, .int .u32 n1, .int .u32 n2, .int .u32 n3, .int .i64 n4, .int .i64 n5, .string n6] 34)).cell? ⟨bn, 4, none⟩ = some (.int .i64 0) := by rw [cell_of HN5.out]; rfl
   have z4 := frozen_of HN5.out 4;have c5 : (w4.alloc (.cells #[.int .i64 n0, .int .u32 n1, .int .u32 n2, .int .u32 n3, .int .i64 n4, .int .i64 n5, .string n6] 34)).cell? ⟨bn, 5, none⟩ = some (.int .i64 0) := by rw [cell_of HN5.out]; rfl
   have z5 := frozen_of HN5.out 5;have c6 : (w4.alloc (.cells #[.int .i64 n0, .int .u32 n1, .int .u32 n2, .int .u32 n3, .int .i64 n4, .int .i64 n5, .string n6] 34)).cell? ⟨bn, 6, none⟩ = some (.string ⟨#[]⟩) := by rw [cell_of HN5.out]; rfl
   have z6 := frozen_of HN5.out 6;obtain ⟨m0, m1, m2, m3, m4, m5, m6⟩ := Own.cs7 HM5.out;go_wp2;refine bodyPost_ret (results_row_tmp (ty := 34) rfl _ _ bn _ _ _ _ rfl (node_put HN5.out _ _ _ _ _ _ _) Tryz.underlying34 rfl sizeNode) rfl ?_;subst hbn;refine ⟨by rw [HX.out]; rfl, ?_⟩;exact node_below HB5.out (Nat.le_refl _) (Nat.le_refl _) _ _ _ _ _ _ _
 have q0 : (R1 == 0) = false := beq_eq_false_iff_ne.2 her;have q1 : (R1 != 0) = true := bne_iff_ne.2 her;have HX := Hi (HL0.out her);clear HL1 HL2 HL0 her;have c0 : w3.cell? ⟨bn, 0, none⟩ = some (.int .i64 0) := by rw [cell_of HN3.out]; rfl
 have z0 := frozen_of HN3.out 0;have c1 : w3.cell? ⟨bn, 1, none⟩ = some (.int .u32 0) := by rw [cell_of HN3.out]; rfl
 have z1 := frozen_of HN3.out 1;have c2 : w3.cell? ⟨bn, 2, none⟩ = some (.int .u32 0) := by rw [cell_of HN3.out]; rfl
 have z2 := frozen_of HN3.out 2;have c3 : w3.cell? ⟨bn, 3, none⟩ = some (.int .u32 0) := by rw [cell_of HN3.out]; rfl
 have z3 := frozen_of HN3.out 3;have c4 : w3.cell? ⟨bn, 4, none⟩ = some (.int .i64 0) := by rw [cell_of HN3.out]; rfl
 have z4 := frozen_of HN3.out 4;have c5 : w3.cell? ⟨bn, 5, none⟩ = some (.int .i64 0) := by rw [cell_of HN3.out]; rfl
 have z5 := frozen_of HN3.out 5;have c6 : w3.cell? ⟨bn, 6, none⟩ = some (.string ⟨#[]⟩) := by rw [cell_of HN3.out]; rfl
 have z6 := frozen_of HN3.out 6;go_wp2;refine bodyPost_ret (results_row_tmp (ty := 34) rfl _ _ bn _ _ _ _ rfl (node_put HN3.out _ _ _ _ _ _ _) Tryz.underlying34 rfl sizeNode) rfl ?_;subst hbn;refine ⟨by rw [HX.out]; rfl, ?_⟩;exact node_below HB3.out (Nat.le_refl _) (Nat.le_refl _) _ _ _ _ _ _ _
end Go.Proofs.YtibmfjacfbpfgaaGreatDoor.RStat
namespace Go.Proofs.YtibmfjacfbpfgaaGreatDoor.RList
open Go.RowKit YtibmfjacfbpfgaaGreatDoorW PrintWords PrintLast PrintMore NameLaw NameWalk NameRef NameUse YtibmfjacfbpfgaaGreatDoor.Item Own NodeRes TreeLaw TreeNodes TreeRef SortIns SortSwap FillLaw DiffLaw RealLaw RealKeep KeepLaw OpLaw OpKeep DkLaw DSmall DSync RLead RReal RDisk ROwnA StepA DList
theorem toList_inj' {a : ByteArray} (h : a.toList = []) : a = ⟨#[]⟩ := ByteArray.ext (Array.toList_inj.1 (by rw [← Lib.toList_data, h]))
theorem rpar_n {w w1 : World} (HB : Hid (Below w.heap.size w w1)) (a : ByteArray) (ha : a.size ≤ 100000) : Calls Tryz.prog 69 #[.string a] w1 fun e w' => e = .returned (.string (parentT a)) ∧ Hid (Below w.heap.size w w') :=
 (PNm.r_Parent.calls (a.size + 1) a _ w1 (rparent_f _ a ha (by omega))).mono fun _ _ h => ⟨h.1, Hi (by obtain ⟨n, rfl⟩ := h.2; exact pw_below_drewN HB.out n)⟩
theorem rbase_n {w w1 : World} (HB : Hid (Below w.heap.size w w1)) (a : ByteArray) (ha : a.size ≤ 100000) : Calls Tryz.prog 72 #[.string a] w1 fun e w' => e = .returned (.string (baseT a)) ∧ Hid (Below w.heap.size w w') :=
 (PNm.r_Base.calls (a.size + 1) a _ w1 (rbase_f _ a ha (by omega))).mono fun _ _ h => ⟨h.1, Hi (by obtain ⟨n, rfl⟩ := h.2; exact pw_below_drewN HB.out n)⟩
theorem rlist_top (W0 W : World) (b : Nat) (vb vw : Value) (d : Dk) (m : Nat) (hD : Doc W0 W b vb vw d m) (hm : m ≤ 700000) (path : ByteArray) (hp : path.size ≤ 10000) (h0 : path.toList = []) :
  Calls Tryz.prog 34 #[.pointer (some ⟨b, 0, none⟩), .string path] W fun e w' => ∃ v1, e = .returned (.tuple #[v1, .int .i64 (listP d.shows path).2]) ∧ Kd.string.R 9 w' W.heap.size (fun _ => True) v1 (listP d.shows path).1 ∧ Below W.heap.size W w' := by
 have hsh := hD.bnd.shows;have HT := Hi (doc_tree (Trees.shows hD.trees) hsh.1 (by omega) hsh.2);have HSH := Hi (rshows_any W0 W b vb vw d m hD (by omega));have HL0 := Hi (list_err (s := d.shows) (path := path));have HL1 := Hi (list_none (s := d.shows) (path := path));have HL2 := Hi (list_kind (s := d.shows) (path := path));have HL3 := Hi (list_ok (s := d.shows) (path := path));clear hD hsh;generalize listP d.shows path = X at *;have hd : path.toList.isEmpty = true := by rw [h0]; rfl
 have hd2 : (path.toList == []) = true := by rw [h0]; rfl
 have hw : whereP d.shows path = (⟨#[]⟩, 0) := if_pos (by rw [← Lib.toList_data]; exact h0);rw [hw] at HL0 HL1 HL2 HL3
 dsimp only at HL0 HL1 HL2 HL3
 clear hw h0;go_enter Tryz.func34, Tryz.ntmps34
 go_wp2_with fail
 refine HSH.out.mono ?_;rintro e w2 ⟨v2, rfl, hr2, hb2⟩;obtain ⟨A, c, hv⟩ := Kd.R_slice hr2;subst hv;have HC2 := Hi (Kd.R_reads' hr2).2.2;have HB2 := Hi hb2;clear hr2 hb2 HSH;replace HL1 := Hi (HL1.out (by first | rfl | trivial));replace HL2 := Hi (HL2.out (by first | rfl | trivial));replace HL3 := Hi (HL3.out (by first | rfl | trivial));have HK := Hi (rkind_any d.shows A c (⟨#[]⟩ : ByteArray) w2 HC2.out);generalize kindOf d.shows (⟨#[]⟩ : ByteArray) = KK at *
 go_wp2_with fail
 refine HK.out.mono ?_;rintro e w5 ⟨rfl, hb5⟩;have HB5 := Hi (below_next HB2.out hb5);have HIs := Hi (Kd.C_below HC2.out hb5);clear hb5 HK HL0
 by_cases hkk : KK = 0
 ·
  subst hkk;have HX := Hi (HL1.out rfl);go_wp2;go_ret2;exact ⟨.slice none 0 0, by rw [HX.out]; rfl, by rw [HX.out]; exact Kd.R_nil _ _ _ _ _, HB5.out⟩
 have q0 : (KK == 0) = false := beq_eq_false_iff_ne.2 hkk
 by_cases hk1 : KK = 1
 ·
  subst hk1;have HX := Hi (HL3.out rfl);clear HL1 HL2 HL3;have HI0 : Hid (lsP (⟨#[]⟩ : ByteArray) (d.shows.take 0) = []) := Hi rfl;have HSP := Hi HT.out.paths;have hlen := HT.out.len;clear HT;generalize d.shows = s at *;go_wp2
  go_loopw [10, 35] (fun v i wr => ∃ k : Nat, k ≤ s.length ∧ i = .int .i64 k ∧ Hid (Kd.string.R 9 wr w5.heap.size (fun _ => True) v (lsP (⟨#[]⟩ : ByteArray) (s.take k))) ∧ Hid (Below w5.heap.size w5 wr)) (fun v i _ => s.length - (intOf i).toNat)
  case atStart => exact ⟨0, Nat.zero_le _, rfl, by rw [HI0.out]; exact Hi (Kd.R_nil _ _ _ _ _), Hi (Below.refl _ _)⟩
  clear HI0;obtain ⟨k, hk, rfl, HV, HT⟩ := hrel;obtain ⟨Av, cv, hv⟩ := Kd.R_slice HV.out;subst hv
  by_cases hlt : k < s.length
  ·
   obtain ⟨ad, rfl, e0, e1, e2, e3, e4, e5, e6, e7⟩ := item_at (Kd.C_below HIs.out HT.out) hlt;have hltI : (k : Int) < s.length := by omega
   have HSTP := Hi (lsP_step (⟨#[]⟩ : ByteArray) hlt);have hsz := HSP.out _ (List.getElem_mem hlt);generalize s[k] = x at *;obtain ⟨x0, x1, x2, x3, x4, x5, x6, x7⟩ := x;simp only at e0 e1 e2 e3 e4 e5 e6 e7 hsz;obtain ⟨L, hL⟩ : ∃ L, L = lsP (⟨#[]⟩ : ByteArray) (s.take k) := ⟨_, rfl⟩;rw [← hL] at HV HSTP ⊢;have hLl : L.length ≤ k := by rw [hL]; unfold lsP; rw [List.length_map]; exact Nat.le_trans (List.length_filter_le _ _) (by rw [List.length_take]; omega)
   clear hL;have hb6 := below_one wr (.cells #[.string x0, .int .i64 x1, .int .u32 x2, .int .u32 x3, .int .u32 x4, .int .i64 x5, .int .i64 x6, .string x7] 77);have c0 : (wr.alloc (.cells #[.string x0, .int .i64 x1, .int .u32 x2, .int .u32 x3, .int .u32 x4, .int .i64 x5, .int .i64 x6, .string x7] 77)).cell? ⟨wr.heap.size, 0, none⟩ = some (.string x0) := by rw [cell_of (heap_new wr _)]; rfl
   have HV6 := Hi (Kd.R_below HV.out hb6);have HT6 := Hi (below_next HT.out hb6);clear hb6 HV HT
   go_wp2_with fail
   generalize wr.alloc (.cells #[.string x0, .int .i64 x1, .int .u32 x2, .int .u32 x3, .int .u32 x4, .int .i64 x5, .int .i64 x6, .string x7] 77) = w6 at *;generalize wr.heap.size = bx at *;refine (rpar_n (Hi (Below.refl _ w6)) x0 (by omega)).mono ?_;rintro e w7 ⟨rfl, HB7⟩;have c7 := pw_cell_below HB7.out c0;have HV7 := Hi (Kd.R_below HV6.out HB7.out);have HTW := Hi (below_next HT6.out HB7.out);clear c0 HB7 HV6 HT6 e0 e1 e2 e3 e4 e5 e6 e7
   by_cases hpa : parentT x0 = (⟨#[]⟩ : ByteArray)
   ·
    have qp : ((parentT x0).toList == ((⟨#[]⟩ : ByteArray)).toList) = true := by rw [hpa]; simp
    have qp2 : (parentT x0).toList.isEmpty = true := by rw [hpa]; simp
    have HSQ : Hid (lsP (⟨#[]⟩ : ByteArray) (s.take (k + 1)) = L ++ [baseT x0]) := Hi (by rw [HSTP.out]; exact congrArg (L ++ ·) (if_pos hpa));clear HSTP hpa
    go_wp2_with fail
    refine (rbase_n (Hi (Below.refl _ w7)) x0 (by omega)).mono ?_;rintro e w8 ⟨rfl, HB8⟩;have HV8 := Hi (Kd.R_below HV7.out HB8.out);have HT8 := Hi (below_next HTW.out HB8.out);clear HB8 HV7 HTW c7;generalize baseT x0 = bb at *
    go_wp2_with ((with_reducible refine gate_builtin (b := .append) (xs := #[.tmp 44, .tmp 48]) rfl ?_); at_builtin; refine Kd.R_append Kd.string (w0 := w5) w5.heap.size rfl (.tmp 44) (.tmp 48) 61 9 (.string ByteArray.empty) 16 rfl Tryz.underlying61 infoStr rfl (by decide) (by decide) (.slice Av L.length cv) L bb [.string bb] (fun _ => True) (fun _ => False) rfl (by first | rfl | (simp; done) | (simp; rfl)) ?aP (fun _ hk => hk.elim) ?aF ?aO ?aB ?aS ?aL ?_; skip)
    case aP => exact rfl
    case aB => exact HT8.out
    case aF => exact (fun _ _ => trivial)
    case aO => exact HV8.out
    case aS => exact HT8.out.size
    case aL => first | omega | (simp; done) | (simp; omega)
    intro v9 w9 ho hb5 hg5 hat5;have HV9 := Hi ho;have HT9 := Hi hb5;clear ho hb5 hg5 hat5;rw [← HSQ.out] at HV9;go_wp2;go_roundw
    case rel => exact ⟨k + 1, by omega, by go_num, HV9, HT9⟩
    case measure => simp [intOf]; omega
   have qp : ((parentT x0).toList == ((⟨#[]⟩ : ByteArray)).toList) = false := by rw [toList_inj]; exact decide_eq_false hpa
   have qp2 : (parentT x0).toList.isEmpty = false := by cases hh : (parentT x0).toList with | nil => (exact absurd (toList_inj' hh) hpa) | cons _ _ => rfl
   have HSQ : Hid (lsP (⟨#[]⟩ : ByteArray) (s.take (k + 1)) = L) := Hi (by rw [HSTP.out]; exact (congrArg (L ++ ·) (if_neg hpa)).trans (List.append_nil L));clear HSTP hpa c7;have HV8 : Hid (Kd.string.R 9 w7 w5.heap.size (fun _ => True) (.slice Av L.length cv) (lsP (⟨#[]⟩ : ByteArray) (s.take (k + 1)))) := by rw [HSQ.out]; exact HV7
   clear HV7 HSQ;go_wp2;go_roundw
   case rel => exact ⟨k + 1, by omega, by go_num, HV8, HTW⟩
   case measure => simp [intOf]; omega
  have hj2 : ¬ (k : Int) < (s.length : Int) := by omega
  have hks : s.take k = s := List.take_of_length_le (by omega);rw [hks] at HV ⊢;go_wp2;go_ret2;exact ⟨_, by rw [HX.out]; rfl, by rw [HX.out]; exact Kd.R_lower HV.out HB5.out.size, below_next HB5.out HT.out⟩
 have q1 : (KK == 1) = false := beq_eq_false_iff_ne.2 hk1;have q2 : (KK != 1) = true := bne_iff_ne.2 hk1;have HX := Hi (HL2.out hkk hk1);go_wp2;go_ret2;exact ⟨.slice none 0 0, by rw [HX.out]; rfl, by rw [HX.out]; exact Kd.R_nil _ _ _ _ _, HB5.out⟩
theorem rlist_some (W0 W : World) (b : Nat) (vb vw : Value) (d : Dk) (m : Nat) (hD : Doc W0 W b vb vw d m) (hm : m ≤ 700000) (path : ByteArray) (hp : path.size ≤ 10000) (h0 : path.toList ≠ []) :
  Calls Tryz.prog 34 #[.pointer (some ⟨b, 0, none⟩), .string path] W fun e w' => ∃ v1, e = .returned (.tuple #[v1, .int .i64 (listP d.shows path).2]) ∧ Kd.string.R 9 w' W.heap.size (fun _ => True) v1 (listP d.shows path).1 ∧ Below W.heap.size W w' := by
 have hsh := hD.bnd.shows;have HT := Hi (doc_tree (Trees.shows hD.trees) hsh.1 (by omega) hsh.2);have HSH := Hi (rshows_any W0 W b vb vw d m hD (by omega));have HL0 := Hi (list_err (s := d.shows) (path := path));have HL1 := Hi (list_none (s := d.shows) (path := path));have HL2 := Hi (list_kind (s := d.shows) (path := path));have HL3 := Hi (list_ok (s := d.shows) (path := path));clear hD hsh;generalize listP d.shows path = X at *;have hd : path.toList.isEmpty = false := by simp [h0]
 have hd2 : (path.toList == []) = false := by simpa using h0
 have hw : whereP d.shows path = realP d.shows path := if_neg (by rw [← Lib.toList_data]; exact h0);rw [hw] at HL0 HL1 HL2 HL3;clear hw h0;go_enter Tryz.func34, Tryz.ntmps34
 go_wp2_with fail
 refine HSH.out.mono ?_;rintro e w2 ⟨v2, rfl, hr2, hb2⟩;obtain ⟨A, c, hv⟩ := Kd.R_slice hr2;subst hv;have HC2 := Hi (Kd.R_reads' hr2).2.2;have HB2 := Hi hb2;clear hr2 hb2 HSH;have HRL := Hi (rreal_any d.shows HT.out w2 A c HC2.out path (by omega));generalize realP d.shows path = R at *;obtain ⟨r, er⟩ := R;simp only at HRL HL0 HL1 HL2 HL3
 go_wp2_with fail
 refine HRL.out.mono ?_;rintro e w3 ⟨rfl, hb3⟩;have HB3 := Hi (below_next HB2.out hb3);have HC3 := Hi (Kd.C_below HC2.out hb3);clear hb3 HRL HB2 HC2
 by_cases her : er = 0
 ·
  subst her;replace HL1 := Hi (HL1.out (by first | rfl | trivial));replace HL2 := Hi (HL2.out (by first | rfl | trivial));replace HL3 := Hi (HL3.out (by first | rfl | trivial));have HK := Hi (rkind_any d.shows A c r w3 HC3.out);generalize kindOf d.shows r = KK at *
  go_wp2_with fail
  refine HK.out.mono ?_;rintro e w5 ⟨rfl, hb5⟩;have HB5 := Hi (below_next HB3.out hb5);have HIs := Hi (Kd.C_below HC3.out hb5);clear hb5 HK HL0
  by_cases hkk : KK = 0
  ·
   subst hkk;have HX := Hi (HL1.out rfl);go_wp2;go_ret2;exact ⟨.slice none 0 0, by rw [HX.out]; rfl, by rw [HX.out]; exact Kd.R_nil _ _ _ _ _, HB5.out⟩
  have q0 : (KK == 0) = false := beq_eq_false_iff_ne.2 hkk
  by_cases hk1 : KK = 1
  ·
   subst hk1;have HX := Hi (HL3.out rfl);clear HL1 HL2 HL3;have HI0 : Hid (lsP r (d.shows.take 0) = []) := Hi rfl;have HSP := Hi HT.out.paths;have hlen := HT.out.len;clear HT;generalize d.shows = s at *;go_wp2
   go_loopw [10, 35] (fun v i wr => ∃ k : Nat, k ≤ s.length ∧ i = .int .i64 k ∧ Hid (Kd.string.R 9 wr w5.heap.size (fun _ => True) v (lsP r (s.take k))) ∧ Hid (Below w5.heap.size w5 wr)) (fun v i _ => s.length - (intOf i).toNat)
   case atStart => exact ⟨0, Nat.zero_le _, rfl, by rw [HI0.out]; exact Hi (Kd.R_nil _ _ _ _ _), Hi (Below.refl _ _)⟩
   clear HI0;obtain ⟨k, hk, rfl, HV, HT⟩ := hrel;obtain ⟨Av, cv, hv⟩ := Kd.R_slice HV.out;subst hv
   by_cases hlt : k < s.length
   ·
    obtain ⟨ad, rfl, e0, e1, e2, e3, e4, e5, e6, e7⟩ := item_at (Kd.C_below HIs.out HT.out) hlt;have hltI : (k : Int) < s.length := by omega
    have HSTP := Hi (lsP_step r hlt);have hsz := HSP.out _ (List.getElem_mem hlt);generalize s[k] = x at *;obtain ⟨x0, x1, x2, x3, x4, x5, x6, x7⟩ := x;simp only at e0 e1 e2 e3 e4 e5 e6 e7 hsz;obtain ⟨L, hL⟩ : ∃ L, L = lsP r (s.take k) := ⟨_, rfl⟩;rw [← hL] at HV HSTP ⊢;have hLl : L.length ≤ k := by rw [hL]; unfold lsP; rw [List.length_map]; exact Nat.le_trans (List.length_filter_le _ _) (by rw [List.length_take]; omega)
    clear hL;have hb6 := below_one wr (.cells #[.string x0, .int .i64 x1, .int .u32 x2, .int .u32 x3, .int .u32 x4, .int .i64 x5, .int .i64 x6, .string x7] 77);have c0 : (wr.alloc (.cells #[.string x0, .int .i64 x1, .int .u32 x2, .int .u32 x3, .int .u32 x4, .int .i64 x5, .int .i64 x6, .string x7] 77)).cell? ⟨wr.heap.size, 0, none⟩ = some (.string x0) := by rw [cell_of (heap_new wr _)]; rfl
    have HV6 := Hi (Kd.R_below HV.out hb6);have HT6 := Hi (below_next HT.out hb6);clear hb6 HV HT
    go_wp2_with fail
    generalize wr.alloc (.cells #[.string x0, .int .i64 x1, .int .u32 x2, .int .u32 x3, .int .u32 x4, .int .i64 x5, .int .i64 x6, .string x7] 77) = w6 at *;generalize wr.heap.size = bx at *;refine (rpar_n (Hi (Below.refl _ w6)) x0 (by omega)).mono ?_;rintro e w7 ⟨rfl, HB7⟩;have c7 := pw_cell_below HB7.out c0;have HV7 := Hi (Kd.R_below HV6.out HB7.out);have HTW := Hi (below_next HT6.out HB7.out);clear c0 HB7 HV6 HT6 e0 e1 e2 e3 e4 e5 e6 e7
    by_cases hpa : parentT x0 = r
    ·
     have qp : ((parentT x0).toList == (r).toList) = true := by rw [hpa]; simp
     have HSQ : Hid (lsP r (s.take (k + 1)) = L ++ [baseT x0]) := Hi (by rw [HSTP.out]; exact congrArg (L ++ ·) (if_pos hpa));clear HSTP hpa
     go_wp2_with fail
     refine (rbase_n (Hi (Below.refl _ w7)) x0 (by omega)).mono ?_;rintro e w8 ⟨rfl, HB8⟩;have HV8 := Hi (Kd.R_below HV7.out HB8.out);have HT8 := Hi (below_next HTW.out HB8.out);clear HB8 HV7 HTW c7;generalize baseT x0 = bb at *
     go_wp2_with ((with_reducible refine gate_builtin (b := .append) (xs := #[.tmp 44, .tmp 48]) rfl ?_); at_builtin; refine Kd.R_append Kd.string (w0 := w5) w5.heap.size rfl (.tmp 44) (.tmp 48) 61 9 (.string ByteArray.empty) 16 rfl Tryz.underlying61 infoStr rfl (by decide) (by decide) (.slice Av L.length cv) L bb [.string bb] (fun _ => True) (fun _ => False) rfl (by first | rfl | (simp; done) | (simp; rfl)) ?aP (fun _ hk => hk.elim) ?aF ?aO ?aB ?aS ?aL ?_; skip)
     case aP => exact rfl
     case aB => exact HT8.out
     case aF => exact (fun _ _ => trivial)
     case aO => exact HV8.out
     case aS => exact HT8.out.size
     case aL => first | omega | (simp; done) | (simp; omega)
     intro v9 w9 ho hb5 hg5 hat5;have HV9 := Hi ho;have HT9 := Hi hb5;clear ho hb5 hg5 hat5;rw [← HSQ.out] at HV9;go_wp2;go_roundw
     case rel => exact ⟨k + 1, by omega, by go_num, HV9, HT9⟩
     case measure => simp [intOf]; omega
    have qp : ((parentT x0).toList == (r).toList) = false := by rw [toList_inj]; exact decide_eq_false hpa
    have HSQ : Hid (lsP r (s.take (k + 1)) = L) := Hi (by rw [HSTP.out]; exact (congrArg (L ++ ·) (if_neg hpa)).trans (List.append_nil L));clear HSTP hpa c7;have HV8 : Hid (Kd.string.R 9 w7 w5.heap.size (fun _ => True) (.slice Av L.length cv) (lsP r (s.take (k + 1)))) := by rw [HSQ.out]; exact HV7
    clear HV7 HSQ;go_wp2;go_roundw
    case rel => exact ⟨k + 1, by omega, by go_num, HV8, HTW⟩
    case measure => simp [intOf]; omega
   have hj2 : ¬ (k : Int) < (s.length : Int) := by omega
   have hks : s.take k = s := List.take_of_length_le (by omega);rw [hks] at HV ⊢;go_wp2;go_ret2;exact ⟨_, by rw [HX.out]; rfl, by rw [HX.out]; exact Kd.R_lower HV.out HB5.out.size, below_next HB5.out HT.out⟩
  have q1 : (KK == 1) = false := beq_eq_false_iff_ne.2 hk1;have q2 : (KK != 1) = true := bne_iff_ne.2 hk1;have HX := Hi (HL2.out hkk hk1);go_wp2;go_ret2;exact ⟨.slice none 0 0, by rw [HX.out]; rfl, by rw [HX.out]; exact Kd.R_nil _ _ _ _ _, HB5.out⟩
 have q0 : (er == 0) = false := beq_eq_false_iff_ne.2 her;have q1 : (er != 0) = true := bne_iff_ne.2 her;have HX := Hi (HL0.out her);clear HL0 HL1 HL2 HL3 her;go_wp2;go_ret2;exact ⟨.slice none 0 0, by rw [HX.out]; rfl, by rw [HX.out]; exact Kd.R_nil _ _ _ _ _, HB3.out⟩
theorem rlist_any (W0 W : World) (b : Nat) (vb vw : Value) (d : Dk) (m : Nat) (hD : Doc W0 W b vb vw d m) (hm : m ≤ 700000) (path : ByteArray) (hp : path.size ≤ 10000) :
  Calls Tryz.prog 34 #[.pointer (some ⟨b, 0, none⟩), .string path] W fun e w' => ∃ v1, e = .returned (.tuple #[v1, .int .i64 (listP d.shows path).2]) ∧ Kd.string.R 9 w' W.heap.size (fun _ => True) v1 (listP d.shows path).1 ∧ Below W.heap.size W w' := by
 by_cases h0 : path.toList = []
 ·
  exact rlist_top W0 W b vb vw d m hD hm path hp h0
 exact rlist_some W0 W b vb vw d m hD hm path hp h0
end Go.Proofs.YtibmfjacfbpfgaaGreatDoor.RList
