/- DiskPlays, walked. -/
import Derived.Test.YtibmfjacfbpfgaaGreatDoorSame15
import Derived.Test.YtibmfjacfbpfgaaGreatDoorTreeRight
import Derived.Test.YtibmfjacfbpfgaaGreatDoorRefV
import Derived.Test.YtibmfjacfbpfgaaGreatDoorDiskB
set_option linter.unusedVariables false
set_option linter.unusedSimpArgs false
namespace Go.Proofs.YtibmfjacfbpfgaaGreatDoor.DiskPlays
open Go.RowKit YtibmfjacfbpfgaaGreatDoorW PrintWords PrintLast PrintMore NameLaw NameCmp NameWalk NameRef NameUse YtibmfjacfbpfgaaGreatDoor.Item Own NodeRes TreeLaw SortIns SortSwap FillLaw DiffLaw RealLaw DoneLaw KeepLaw RealKeep OpLaw OpKeep DkLaw DAt DSmall DState DWait RDisk ROwnA ActLaw YtibmfjacfbpfgaaGreatDoor.Act DMake DWrite DRemove DRename DMeta DSync DFlush DCrash RDo RCrash Pair LawDo Light DStat DList Awake15 DLay Same15 TreeRight RStat RList RReal RLead
theorem right_yes {s : List It} (h : RightP s) : rightB s = true := @decide_eq_true _ (Classical.propDecidable _) h
theorem light_few {l : List Ax} {most : Int} (h : ∀ y ∈ l, OkX l.length most y) (h0 : 0 ≤ most) : (l.length : Int) ≤ most := by
 cases l with
 | nil => exact h0
 | cons y t => exact (h y (by simp)).1
theorem right_calls {s : List It} {A : Option Addr} {c : Nat} {w : World} (h : ItemC w A s) (hr : RightP s) (hl : s.length ≤ 1000000) : Calls Tryz.prog 30 #[.slice A s.length c] w fun e w' => e = .returned (.bool true) ∧ Below w.heap.size w w' := by
 have h := rright_any s A c w h hl (fun x hx => by have := right_size hr x hx; omega);rw [right_yes hr] at h;exact h
set_option maxHeartbeats 32000000 in
set_option maxRecDepth 100000 in
theorem plays_run (lim : Int) (l : List Ax) (A : Option Addr) (c : Nat) (W : World) (hg : Glob W) (hl : AxC W A l) (hfit : ∀ y ∈ l, FitX y) :
  Calls Tryz.prog 5 #[.int .i64 lim, .slice A l.length c] W fun e w' => e = .returned (.bool true) ∧ Below W.heap.size W w' := by
 have HL := Hi hl;have HFT := Hi hfit;have HG := Hi hg;have l1 := hl.2.1;clear hl hfit hg;go_enter Tryz.func5, Tryz.ntmps5;have HAW := Hi (awake_any W HG.out)
 go_wp2_with fail
 refine HAW.out.mono ?_;rintro e w2 ⟨rfl, hb2⟩;have HB2 := Hi hb2;have HG2 := Hi (HG.out.below hb2);clear hb2 HAW HG;have HLI := Hi (light_any l A c 40 w2 (Kd.C_below HL.out HB2.out))
 go_wp2_with fail
 refine HLI.out.mono ?_;rintro e w5 ⟨r1, rfl, hr1, hb3⟩;have HLB := Hi (below_next HB2.out hb3);have HG5 := Hi (HG2.out.below hb3);clear hb3 HLI HG2 HB2
 cases r1 with
 | false =>
  go_wp2;go_ret;exact ⟨rfl, HLB.out⟩
 | true =>
 have HR1 := Hi (hr1 rfl);clear hr1;have hll := light_few HR1.out (by decide);have HNW := Hi (new_any lim w5)
 go_wp2_with fail
 refine HNW.out.mono ?_;rintro e w6 ⟨rfl, hd6, hb6⟩;have HD6 := Hi hd6;have HB6 := Hi hb6;clear hd6 hb6 HNW;have HRN := Hi (rnew_any lim w6)
 go_wp2_with fail
 refine HRN.out.mono ?_;rintro e w7 ⟨rfl, hd7, hb7⟩;have HP7 := Hi (pair_new HG5.out lim HD6.out HB6.out hd7 hb7);clear hd7 hb7 HRN HD6 HB6;go_wp2
 go_loopw [33] (fun i wr => ∃ (k : Nat) (vl vs vq vb vw : Value) (d q : Dk), k ≤ l.length ∧ i = .int .i64 k ∧ Hid (Pair w5 wr w5.heap.size vl vs vq d w6.heap.size vb vw q k)) (fun i _ => l.length - (intOf i).toNat)
 case atStart => exact ⟨0, _, _, _, _, _, _, _, Nat.zero_le _, rfl, HP7⟩
 clear HP7;obtain ⟨k, vl, vs, vq, vb, vw, d, q, hk, rfl, HP⟩ := hrel
 by_cases hlt : k < l.length
 ·
  have hltI : (k : Int) < (l.length : Int) := by omega
  have HBW := Hi (pair_low HLB.out HP.out);obtain ⟨ad, hA, hget⟩ := ax_at (Kd.C_below HL.out HBW.out) hlt;subst hA;have hfx := HFT.out _ (List.getElem_mem hlt);have hok := HR1.out _ (List.getElem_mem hlt);generalize l[k] = x at hget hfx hok;obtain ⟨dk, pa, tp, ⟨kd, mo, ui, gi, mt, at_, da⟩, num, kp, mk, ct⟩ := x;obtain ⟨_, hpz, htz, hdz⟩ := hok;have hpz : pa.size ≤ 1000 := hpz;have htz : tp.size ≤ 1000 := htz;have hdz : da.size ≤ 1000 := hdz;have e0 : wr.cell? (ad.add (k * 14)) = some (.int .i64 dk) := hget 0 _ rfl;have e1 : wr.cell? ⟨(ad.add (k * 14)).block, (ad.add (k * 14)).off + 1, none⟩ = some (.string pa) := hget 1 _ rfl;have e2 : wr.cell? ⟨(ad.add (k * 14)).block, (ad.add (k * 14)).off + 2, none⟩ = some (.string tp) := hget 2 _ rfl;have e3 : wr.cell? ⟨(ad.add (k * 14)).block, (ad.add (k * 14)).off + 3, none⟩ = some (.int .i64 kd) := hget 3 _ rfl;have e4 : wr.cell? ⟨(ad.add (k * 14)).block, (ad.add (k * 14)).off + 4, none⟩ = some (.int .u32 mo) := hget 4 _ rfl;have e5 : wr.cell? ⟨(ad.add (k * 14)).block, (ad.add (k * 14)).off + 5, none⟩ = some (.int .u32 ui) := hget 5 _ rfl;have e6 : wr.cell? ⟨(ad.add (k * 14)).block, (ad.add (k * 14)).off + 6, none⟩ = some (.int .u32 gi) := hget 6 _ rfl;have e7 : wr.cell? ⟨(ad.add (k * 14)).block, (ad.add (k * 14)).off + 7, none⟩ = some (.int .i64 mt) := hget 7 _ rfl;have e8 : wr.cell? ⟨(ad.add (k * 14)).block, (ad.add (k * 14)).off + 8, none⟩ = some (.int .i64 at_) := hget 8 _ rfl;have e9 : wr.cell? ⟨(ad.add (k * 14)).block, (ad.add (k * 14)).off + 9, none⟩ = some (.string da) := hget 9 _ rfl;have e10 : wr.cell? ⟨(ad.add (k * 14)).block, (ad.add (k * 14)).off + 10, none⟩ = some (.int .i64 num) := hget 10 _ rfl;have e11 : wr.cell? ⟨(ad.add (k * 14)).block, (ad.add (k * 14)).off + 11, none⟩ = some (.int .i64 kp) := hget 11 _ rfl;have e12 : wr.cell? ⟨(ad.add (k * 14)).block, (ad.add (k * 14)).off + 12, none⟩ = some (.int .u64 mk) := hget 12 _ rfl;have e13 : wr.cell? ⟨(ad.add (k * 14)).block, (ad.add (k * 14)).off + 13, none⟩ = some (.int .i64 ct) := hget 13 _ rfl;clear hget;have HX0 := Hi (heap_new wr (.cells #[.int .i64 dk, .string pa, .string tp, .int .i64 kd, .int .u32 mo, .int .u32 ui, .int .u32 gi, .int .i64 mt, .int .i64 at_, .string da, .int .i64 num, .int .i64 kp, .int .u64 mk, .int .i64 ct] 36))
  have HNO := Hi (show ∀ z, Both2 w5.heap.size vl vs vq w6.heap.size vb vw z → z ≠ wr.heap.size from fun z hz e => by
   rcases hz with o | o
   ·
    have := owns_lt HP.out.prog.at_ z o; omega
   have := rowns_lt HP.out.doc.at_ z o; omega)
  have HDO := Hi (do_any w5 (wr.alloc (.cells #[.int .i64 dk, .string pa, .string tp, .int .i64 kd, .int .u32 mo, .int .u32 ui, .int .u32 gi, .int .i64 mt, .int .i64 at_, .string da, .int .i64 num, .int .i64 kp, .int .u64 mk, .int .i64 ct] 36)) w5.heap.size vl vs vq d w6.heap.size vb vw q k (HP.out.below (below_one wr (.cells #[.int .i64 dk, .string pa, .string tp, .int .i64 kd, .int .u32 mo, .int .u32 ui, .int .u32 gi, .int .i64 mt, .int .i64 at_, .string da, .int .i64 num, .int .i64 kp, .int .u64 mk, .int .i64 ct] 36))) (by omega) dk pa tp kd mo ui gi mt at_ da num kp mk ct hfx hpz htz hdz);clear hfx HBW
  go_wp2_with fail
  refine HDO.out.mono ?_;rintro e w9 ⟨rfl, vl1, vs1, vq1, vb1, vw1, hp9, hs9⟩;have HX := Hi ((hs9.block wr.heap.size (Own.lo HX0.out) (fun o => HNO.out _ o rfl)).trans HX0.out);have HP9 := Hi hp9;clear hp9 hs9 HDO HP HX0 HNO e0 e1 e2 e3 e4 e5 e6 e7 e8 e9 e10 e11 e12 e13;obtain ⟨bx, hbx⟩ : ∃ bx, bx = wr.heap.size := ⟨_, rfl⟩;rw [← hbx] at HX ⊢;clear hbx;generalize actD nzP d (dk, pa, tp, (kd, mo, ui, gi, mt, at_, da), num, kp, mk, ct) = D at *;generalize actD nzR q (dk, pa, tp, (kd, mo, ui, gi, mt, at_, da), num, kp, mk, ct) = Q at *;have HSH := Hi HP9.out.rel.shows;have HTS := Hi (Trees.shows HP9.out.prog.trees);have HTB := Hi (Trees.base HP9.out.prog.trees);have hsl : D.shows.length ≤ 1000000 := by have := HP9.out.prog.bnd.shows.1; omega
  have hbl : D.base.length ≤ 1000000 := by have := HP9.out.prog.bnd.len; omega
  have HC1 := Hi (bothsame_any w5 w9 w5.heap.size vl1 vs1 vq1 D w6.heap.size vb1 vw1 Q (k + 1) HP9.out (by omega))
  go_wp2_with fail
  refine HC1.out.mono ?_;rintro e w10 ⟨rfl, hb⟩;have HP9 := Hi (HP9.out.below hb);have HX := Hi (Own.kp hb HX.out);clear hb HC1;have HC2 := Hi (all_any w5.heap.size _ vl1 vs1 vq1 D w10 HP9.out.prog.at_ hsl)
  go_wp2_with fail
  refine HC2.out.mono ?_;rintro e w11 ⟨v1, rfl, hr1, hb⟩;have HP9 := Hi (HP9.out.below hb);have HX := Hi (Own.kp hb HX.out);obtain ⟨A1, c1, hv1, _, hC1⟩ := Kd.R_reads hr1;subst hv1;have HV1 := Hi hC1;clear hb HC2 hr1 hC1;have HC3 := Hi (right_calls (c := c1) HV1.out HTS.out hsl)
  go_wp2_with fail
  refine HC3.out.mono ?_;rintro e w12 ⟨rfl, hb⟩;have HP9 := Hi (HP9.out.below hb);have HX := Hi (Own.kp hb HX.out);clear hb HC3 HV1;have HC4 := Hi (lasts_any w5.heap.size _ vl1 vs1 vq1 D w12 HP9.out.prog.at_ hbl)
  go_wp2_with fail
  refine HC4.out.mono ?_;rintro e w13 ⟨v1, rfl, hr1, hb⟩;have HP9 := Hi (HP9.out.below hb);have HX := Hi (Own.kp hb HX.out);obtain ⟨A1, c1, hv1, _, hC1⟩ := Kd.R_reads hr1;subst hv1;have HV1 := Hi hC1;clear hb HC4 hr1 hC1;have HC5 := Hi (right_calls (c := c1) HV1.out HTB.out hbl)
  go_wp2_with fail
  refine HC5.out.mono ?_;rintro e w14 ⟨rfl, hb⟩;have HP9 := Hi (HP9.out.below hb);have HX := Hi (Own.kp hb HX.out);clear hb HC5 HV1;have g1 : w14.cell? ⟨bx, 1, none⟩ = some (.string pa) := by rw [cell_of HX.out]; rfl
  obtain ⟨sr, hsr⟩ : ∃ sr, sr = statP D.shows pa := ⟨_, rfl⟩;have HSR := Hi hsr;clear hsr;obtain ⟨⟨n0, n1, n2, n3, n4, n5, n6⟩, se⟩ := sr
  have HC6 := Hi (show Calls Tryz.prog 31 #[.pointer (some ⟨w5.heap.size, 0, none⟩), .string pa] w14 fun e w' => e = .returned (.tuple #[.agg #[.int .i64 n0, .int .u32 n1, .int .u32 n2, .int .u32 n3, .int .i64 n4, .int .i64 n5, .string n6], .int .i64 se]) ∧ Below w14.heap.size w14 w' from by
   have h := stat_any w5 w14 w5.heap.size vl1 vs1 vq1 D (k + 1) HP9.out.prog (by omega) pa (by omega);rw [← HSR.out] at h
   exact h)
  go_wp2_with fail
  refine HC6.out.mono ?_;rintro e w15 ⟨rfl, hb⟩;have HP9 := Hi (HP9.out.below hb);have HX := Hi (Own.kp hb HX.out);clear hb HC6 g1;have hb := below_one w15 (.cells #[.int .i64 n0, .int .u32 n1, .int .u32 n2, .int .u32 n3, .int .i64 n4, .int .i64 n5, .string n6] 34);have HP9 := Hi (HP9.out.below hb);have HX := Hi (Own.kp hb HX.out);have HN1 := Hi (heap_new w15 (.cells #[.int .i64 n0, .int .u32 n1, .int .u32 n2, .int .u32 n3, .int .i64 n4, .int .i64 n5, .string n6] 34));clear hb;have g1 : (w15.alloc (.cells #[.int .i64 n0, .int .u32 n1, .int .u32 n2, .int .u32 n3, .int .i64 n4, .int .i64 n5, .string n6] 34)).cell? ⟨bx, 1, none⟩ = some (.string pa) := by rw [cell_of HX.out]; rfl
  have HC7 := Hi (show Calls Tryz.prog 32 #[.pointer (some ⟨w6.heap.size, 0, none⟩), .string pa] (w15.alloc (.cells #[.int .i64 n0, .int .u32 n1, .int .u32 n2, .int .u32 n3, .int .i64 n4, .int .i64 n5, .string n6] 34)) fun e w' => e = .returned (.tuple #[.agg #[.int .i64 n0, .int .u32 n1, .int .u32 n2, .int .u32 n3, .int .i64 n4, .int .i64 n5, .string n6], .int .i64 se]) ∧ Below (w15.alloc (.cells #[.int .i64 n0, .int .u32 n1, .int .u32 n2, .int .u32 n3, .int .i64 n4, .int .i64 n5, .string n6] 34)).heap.size (w15.alloc (.cells #[.int .i64 n0, .int .u32 n1, .int .u32 n2, .int .u32 n3, .int .i64 n4, .int .i64 n5, .string n6] 34)) w' from by
   have h := rstat_any w5 (w15.alloc (.cells #[.int .i64 n0, .int .u32 n1, .int .u32 n2, .int .u32 n3, .int .i64 n4, .int .i64 n5, .string n6] 34)) w6.heap.size vb1 vw1 Q (k + 1) HP9.out.doc (by omega) pa (by omega);rw [← HSH.out, ← HSR.out] at h
   exact h)
  go_wp2_with fail
  refine HC7.out.mono ?_;rintro e w16 ⟨rfl, hb⟩;have HP9 := Hi (HP9.out.below hb);have HX := Hi (Own.kp hb HX.out);have HN1 := Hi (Own.kp hb HN1.out);obtain ⟨n1b, hn1b⟩ : ∃ z, z = w15.heap.size := ⟨_, rfl⟩;rw [← hn1b] at HN1 ⊢;clear hn1b;clear hb HC7 g1;have hb := below_one w16 (.cells #[.int .i64 n0, .int .u32 n1, .int .u32 n2, .int .u32 n3, .int .i64 n4, .int .i64 n5, .string n6] 34);have HP9 := Hi (HP9.out.below hb);have HX := Hi (Own.kp hb HX.out);have HN1 := Hi (Own.kp hb HN1.out);have HN2 := Hi (heap_new w16 (.cells #[.int .i64 n0, .int .u32 n1, .int .u32 n2, .int .u32 n3, .int .i64 n4, .int .i64 n5, .string n6] 34));clear hb;have g2 : (w16.alloc (.cells #[.int .i64 n0, .int .u32 n1, .int .u32 n2, .int .u32 n3, .int .i64 n4, .int .i64 n5, .string n6] 34)).cell? ⟨bx, 2, none⟩ = some (.string tp) := by rw [cell_of HX.out]; rfl
  obtain ⟨lr, hlr⟩ : ∃ lr, lr = listP D.shows tp := ⟨_, rfl⟩;have HLR := Hi hlr;clear hlr;obtain ⟨ls, le⟩ := lr
  have HC8 := Hi (show Calls Tryz.prog 33 #[.pointer (some ⟨w5.heap.size, 0, none⟩), .string tp] (w16.alloc (.cells #[.int .i64 n0, .int .u32 n1, .int .u32 n2, .int .u32 n3, .int .i64 n4, .int .i64 n5, .string n6] 34)) fun e w' => ∃ v1, e = .returned (.tuple #[v1, .int .i64 le]) ∧ Kd.string.R 9 w' (w16.alloc (.cells #[.int .i64 n0, .int .u32 n1, .int .u32 n2, .int .u32 n3, .int .i64 n4, .int .i64 n5, .string n6] 34)).heap.size (fun _ => True) v1 ls ∧ Below (w16.alloc (.cells #[.int .i64 n0, .int .u32 n1, .int .u32 n2, .int .u32 n3, .int .i64 n4, .int .i64 n5, .string n6] 34)).heap.size (w16.alloc (.cells #[.int .i64 n0, .int .u32 n1, .int .u32 n2, .int .u32 n3, .int .i64 n4, .int .i64 n5, .string n6] 34)) w' from by
   have h := list_any w5 (w16.alloc (.cells #[.int .i64 n0, .int .u32 n1, .int .u32 n2, .int .u32 n3, .int .i64 n4, .int .i64 n5, .string n6] 34)) w5.heap.size vl1 vs1 vq1 D (k + 1) HP9.out.prog (by omega) tp (by omega);rw [← HLR.out] at h
   exact h)
  go_wp2_with fail
  refine HC8.out.mono ?_;rintro e w17 ⟨v1, rfl, hr1, hb⟩;have HP9 := Hi (HP9.out.below hb);have HX := Hi (Own.kp hb HX.out);have HN1 := Hi (Own.kp hb HN1.out);have HN2 := Hi (Own.kp hb HN2.out);obtain ⟨n2b, hn2b⟩ : ∃ z, z = w16.heap.size := ⟨_, rfl⟩;rw [← hn2b] at HN2 ⊢;clear hn2b;obtain ⟨B1, k1, hv1, _, hC1⟩ := Kd.R_reads hr1;subst hv1;have HL1 := Hi hC1;clear hb HC8 g2 hr1 hC1;have g2 : w17.cell? ⟨bx, 2, none⟩ = some (.string tp) := by rw [cell_of HX.out]; rfl
  have HC9 := Hi (show Calls Tryz.prog 34 #[.pointer (some ⟨w6.heap.size, 0, none⟩), .string tp] w17 fun e w' => ∃ v1, e = .returned (.tuple #[v1, .int .i64 le]) ∧ Kd.string.R 9 w' w17.heap.size (fun _ => True) v1 ls ∧ Below w17.heap.size w17 w' from by
   have h := rlist_any w5 w17 w6.heap.size vb1 vw1 Q (k + 1) HP9.out.doc (by omega) tp (by omega);rw [← HSH.out, ← HLR.out] at h
   exact h)
  go_wp2_with fail
  refine HC9.out.mono ?_;rintro e w18 ⟨v2, rfl, hr1, hb⟩;have HP9 := Hi (HP9.out.below hb);have HX := Hi (Own.kp hb HX.out);have HN1 := Hi (Own.kp hb HN1.out);have HN2 := Hi (Own.kp hb HN2.out);have HL1 := Hi (Kd.C_below HL1.out hb);obtain ⟨B2, k2, hv2, _, hC2⟩ := Kd.R_reads hr1;subst hv2;have HL2 := Hi hC2;clear hb HC9 g2 hr1 hC2;have g1 : w18.cell? ⟨bx, 1, none⟩ = some (.string pa) := by rw [cell_of HX.out]; rfl
  obtain ⟨rr, hrr⟩ : ∃ rr, rr = realP D.shows pa := ⟨_, rfl⟩;have HRR := Hi hrr;clear hrr;obtain ⟨rp, re⟩ := rr
  have HC10 := Hi (show Calls Tryz.prog 16 #[.pointer (some ⟨w5.heap.size, 0, none⟩), .string pa] w18 fun e w' => e = .returned (.tuple #[.string rp, .int .i64 re]) ∧ Below w18.heap.size w18 w' from by
   have h := HP9.out.prog.real (by omega) pa (by omega);rw [← HRR.out] at h
   exact h)
  go_wp2_with fail
  refine HC10.out.mono ?_;rintro e w19 ⟨rfl, hb⟩;have HP9 := Hi (HP9.out.below hb);have HX := Hi (Own.kp hb HX.out);have HN1 := Hi (Own.kp hb HN1.out);have HN2 := Hi (Own.kp hb HN2.out);have HL1 := Hi (Kd.C_below HL1.out hb);have HL2 := Hi (Kd.C_below HL2.out hb);clear hb HC10 g1;go_wp2;have hb : Below w19.heap.size w19 w19.drew := below_drew (Below.refl _ _);have HP9 := Hi (HP9.out.below hb);have HX := Hi (Own.kp hb HX.out);have HN1 := Hi (Own.kp hb HN1.out);have HN2 := Hi (Own.kp hb HN2.out);have HL1 := Hi (Kd.C_below HL1.out hb);have HL2 := Hi (Kd.C_below HL2.out hb);clear hb;have p0 : w19.drew.cell? ⟨bx, 1, none⟩ = some (.string pa) := by rw [cell_of HX.out]; rfl
  have hsl9 : D.shows.length ≤ k + 1 := HP9.out.prog.bnd.shows.1;have HLT := Hi HP9.out.prog.bnd.shows.2;refine start_ (n := 10) (S := fun w' => w'.cell? ⟨bx, 1, none⟩ = some (.string pa)) (ds := []) (bm 10 0) (by kernel_rfl) rfl rfl (p0) (fun hHeld => ?_);generalize w19.drew = W20 at *;refine pure_ (i := 0) (N := some 96) (v := ?_) (a' := ?_) (bm 10 1) rfl rfl (by kernel_rfl) (fun _ _ _ h => h) (Or.inl ⟨by rfl, ?_⟩) ?_ ?_;rotate_left;intro w';go_simp;(with_reducible rfl);rotate_left;simp only [Act.put, nA, nZ, nS, i64_w, i32_w];rfl;refine pure_ (i := 2) (N := some 98) (v := ?_) (a' := ?_) (bm 10 5) rfl rfl (by kernel_rfl) (fun _ _ _ h => h) (Or.inl ⟨by rfl, ?_⟩) ?_ ?_;rotate_left;intro w';go_simp;(with_reducible rfl);rotate_left;simp only [Act.put, nA, nZ, nS, i64_w, i32_w];rfl;refine take_ (i := 3) (N := some 99) (v := ?_) (a' := ?_) (bm 10 13) rfl rfl (by kernel_rfl) (fun _ _ _ h => h) (Or.inl ⟨by rfl, ?_⟩) hHeld ?_ ?_;rotate_left;intro w' s0;go_simp;(with_reducible rfl);rotate_left;simp only [Act.put, nA, nZ, nS, i64_w, i32_w];rfl;refine one_ (i := 1) (N := some 97) (bm 10 15) rfl rfl (by kernel_rfl) (by decide) (fun K hK => ?_);refine goes_ Tryz.func36 (by kernel_rfl) rfl #[.pointer (some ⟨w6.heap.size, 0, none⟩)] (by rfl) rfl rfl (by simp only [List.map_toArray, List.map_cons, List.map_nil]; rfl) ?_;with_reducible refine (rshows_any w5 W20 w6.heap.size vb1 vw1 Q (k + 1) HP9.out.doc (by omega)).mono ?_
  rintro e w21 ⟨v3, rfl, hr3, hb⟩;refine ⟨_, rfl, ?_⟩;rw [← HSH.out] at hr3;obtain ⟨A3, c3, hv3, _, hC3⟩ := Kd.R_reads hr3;subst hv3;have HV3 := Hi hC3;have HP9 := Hi (HP9.out.below hb);have HX := Hi (Own.kp hb HX.out);have HN1 := Hi (Own.kp hb HN1.out);have HN2 := Hi (Own.kp hb HN2.out);have HL1 := Hi (Kd.C_below HL1.out hb);have HL2 := Hi (Kd.C_below HL2.out hb);have q0 := pw_cell_below hb p0;clear hr3 hC3 hb;refine hK.out _ _ (q0) (fun hHeld => ?_);clear hK K;refine norm_ (a' := ?_) ?_ ?_;rotate_left
  ·
   show Act.put _ (some 97) _ = _
   simp only [Act.put, nA, nZ, nS, i64_w, i32_w];rfl
  refine one_ (i := 4) (N := some 100) (bm 10 31) rfl rfl (by kernel_rfl) (by decide) (fun K hK => ?_);refine goes_ Tryz.func35 (by kernel_rfl) rfl #[.slice A3 D.shows.length c3, .string pa] (by rfl) rfl rfl (by simp only [List.map_toArray, List.map_cons, List.map_nil]; rfl) ?_
  with_reducible refine ((show Calls Tryz.prog 35 #[.slice A3 D.shows.length c3, .string pa] w21 fun e w' => e = .returned (.tuple #[.string rp, .int .i64 re]) ∧ Below w21.heap.size w21 w' from by
   have h := rreal_any D.shows (doc_tree HTS.out hsl9 (by omega) HLT.out) w21 A3 c3 HV3.out pa (by omega);rw [← HRR.out] at h
   exact h)).mono ?_
  rintro e w22 ⟨rfl, hb⟩;refine ⟨_, rfl, ?_⟩;have HP9 := Hi (HP9.out.below hb);have HX := Hi (Own.kp hb HX.out);have HN1 := Hi (Own.kp hb HN1.out);have HN2 := Hi (Own.kp hb HN2.out);have HL1 := Hi (Kd.C_below HL1.out hb);have HL2 := Hi (Kd.C_below HL2.out hb);have r0 := pw_cell_below hb q0;clear hb HV3;refine hK.out _ _ (r0) (fun hHeld => ?_);clear hK K;refine norm_ (a' := ?_) ?_ ?_;rotate_left
  ·
   show Act.put _ (some 100) _ = _
   simp only [Act.put, nA, nZ, nS, i64_w, i32_w];rfl
  refine pure_ (i := 5) (N := some 95) (v := ?_) (a' := ?_) (bm 10 63) rfl rfl (by kernel_rfl) (fun _ _ _ h => h) (Or.inl ⟨by rfl, ?_⟩) ?_ ?_;rotate_left;intro w';go_simp;(with_reducible rfl);rotate_left;simp only [Act.put, nA, nZ, nS, i64_w, i32_w];rfl;refine pure_ (i := 6) (N := some 101) (v := ?_) (a' := ?_) (bm 10 127) rfl rfl (by kernel_rfl) (fun _ _ _ h => h) (Or.inl ⟨by rfl, ?_⟩) ?_ ?_;rotate_left;intro w';go_simp;(with_reducible rfl);rotate_left;simp only [Act.put, nA, nZ, nS, i64_w, i32_w];rfl;refine pure_ (i := 7) (N := some 102) (v := ?_) (a' := ?_) (bm 10 255) rfl rfl (by kernel_rfl) (fun _ _ _ h => h) (Or.inl ⟨by rfl, ?_⟩) ?_ ?_;rotate_left;intro w';go_simp;(with_reducible rfl);rotate_left;simp only [Act.put, nA, nZ, nS, i64_w, i32_w];rfl;refine pure_ (i := 8) (N := some 19) (v := ?_) (a' := ?_) (bm 10 511) rfl rfl (by kernel_rfl) (fun _ _ _ h => h) (Or.inl ⟨by rfl, ?_⟩) ?_ ?_;rotate_left;intro w';go_simp;(with_reducible rfl);rotate_left;simp only [Act.put, nA, nZ, nS, i64_w, i32_w];rfl;refine pure_ (i := 9) (N := some 20) (v := ?_) (a' := ?_) (bm 10 1023) rfl rfl (by kernel_rfl) (fun _ _ _ h => h) (Or.inl ⟨by rfl, ?_⟩) ?_ ?_;rotate_left;intro w';go_simp;(with_reducible rfl);rotate_left;simp only [Act.put, nA, nZ, nS, i64_w, i32_w];rfl;refine done_ (by kernel_rfl) ?_

  clear p0 q0 r0 hHeld;have he := fun (dd : Nat) (V : World) => eqNode dd V n0 n0 n1 n1 n2 n2 n3 n3 n4 n4 n5 n5 n6 n6
  simp only [beq_self_eq_true, Bool.and_self] at he;obtain ⟨x0, x1, x2, x3, x4, x5, x6⟩ := Own.cs7 HN1.out;obtain ⟨y0, y1, y2, y3, y4, y5, y6⟩ := Own.cs7 HN2.out;clear HX HN1 HN2;have l2 := HL1.out.2.1;have HBZ := Hi (Below.refl w22.heap.size w22);go_wp2;clear x0 y0 x1 y1 x2 y2 x3 y3 x4 y4 x5 y5 x6 y6 he
  go_loopw [135] (fun i wi => ∃ j : Nat, j ≤ ls.length ∧ i = .int .i64 j ∧ Hid (Below w22.heap.size w22 wi)) (fun i _ => ls.length - (intOf i).toNat)
  case atStart => exact ⟨0, Nat.zero_le _, rfl, HBZ⟩
  obtain ⟨j, hj, rfl, HBI⟩ := hrel
  by_cases hjl : j < ls.length
  ·
   have hjI : (j : Int) < (ls.length : Int) := by omega
   obtain ⟨ad1, hA1, e1⟩ := Kd.at_string (Kd.C_below HL1.out HBI.out) (j : Int) (by omega) (by omega);obtain ⟨ad2, hA2, e2⟩ := Kd.at_string (Kd.C_below HL2.out HBI.out) (j : Int) (by omega) (by omega);subst hA1 hA2;generalize rdOf ByteArray.empty ls (j : Int) = y at *;have hyy : (y.toList != y.toList) = false := by simp
   go_wp2;have HBN : Hid (Below w22.heap.size w22 wr.drew) := Hi (below_drew HBI.out);have p0 : wr.drew.cell? (ad1.add j) = some (.string y) := e1;have p1 : wr.drew.cell? (ad2.add j) = some (.string y) := e2;refine start_ (n := 9) (S := fun w' => w'.cell? (ad1.add j) = some (.string y) ∧ w'.cell? (ad2.add j) = some (.string y)) (ds := []) (bm 9 0) (by kernel_rfl) rfl rfl ⟨p0, p1⟩ (fun hHeld => ?_);generalize wr.drew = W23 at *;refine pure_ (i := 0) (N := some 138) (v := ?_) (a' := ?_) (bm 9 1) rfl rfl (by kernel_rfl) (fun _ _ _ h => h) (Or.inl ⟨by rfl, ?_⟩) ?_ ?_;rotate_left;intro w';go_simp;(with_reducible rfl);rotate_left;simp only [Act.put, nA, nZ, nS, i64_w, i32_w];rfl;refine pure_ (i := 1) (N := some 139) (v := ?_) (a' := ?_) (bm 9 3) rfl rfl (by kernel_rfl) (fun _ _ _ h => h) (Or.inl ⟨by rfl, ?_⟩) ?_ ?_;rotate_left;intro w';go_simp;(with_reducible rfl);rotate_left;simp only [Act.put, nA, nZ, nS, i64_w, i32_w];rfl;refine pure_ (i := 2) (N := some 140) (v := ?_) (a' := ?_) (bm 9 7) rfl rfl (by kernel_rfl) (fun _ _ _ h => h) (Or.inl ⟨by rfl, ?_⟩) ?_ ?_;rotate_left;intro w';go_simp;(with_reducible rfl);rotate_left;simp only [Act.put, nA, nZ, nS, i64_w, i32_w];rfl;refine pure_ (i := 4) (N := some 142) (v := ?_) (a' := ?_) (bm 9 23) rfl rfl (by kernel_rfl) (fun _ _ _ h => h) (Or.inl ⟨by rfl, ?_⟩) ?_ ?_;rotate_left;intro w';go_simp;(with_reducible rfl);rotate_left;simp only [Act.put, nA, nZ, nS, i64_w, i32_w];rfl;refine pure_ (i := 5) (N := some 143) (v := ?_) (a' := ?_) (bm 9 55) rfl rfl (by kernel_rfl) (fun _ _ _ h => h) (Or.inl ⟨by rfl, ?_⟩) ?_ ?_;rotate_left;intro w';go_simp;(with_reducible rfl);rotate_left;simp only [Act.put, nA, nZ, nS, i64_w, i32_w];rfl;refine pure_ (i := 6) (N := some 144) (v := ?_) (a' := ?_) (bm 9 119) rfl rfl (by kernel_rfl) (fun _ _ _ h => h) (Or.inl ⟨by rfl, ?_⟩) ?_ ?_;rotate_left;intro w';go_simp;(with_reducible rfl);rotate_left;simp only [Act.put, nA, nZ, nS, i64_w, i32_w];rfl;refine take_ (i := 3) (N := some 141) (v := ?_) (a' := ?_) (bm 9 127) rfl rfl (by kernel_rfl) (fun _ _ _ h => h) (Or.inl ⟨by rfl, ?_⟩) hHeld ?_ ?_;rotate_left;rintro w' ⟨s0, s1⟩;go_simp;(with_reducible rfl);rotate_left;simp only [Act.put, nA, nZ, nS, i64_w, i32_w];rfl;refine take_ (i := 7) (N := some 145) (v := ?_) (a' := ?_) (bm 9 255) rfl rfl (by kernel_rfl) (fun _ _ _ h => h) (Or.inl ⟨by rfl, ?_⟩) hHeld ?_ ?_;rotate_left;rintro w' ⟨s0, s1⟩;go_simp;(with_reducible rfl);rotate_left;simp only [Act.put, nA, nZ, nS, i64_w, i32_w];rfl;refine pure_ (i := 8) (N := some 146) (v := ?_) (a' := ?_) (bm 9 511) rfl rfl (by kernel_rfl) (fun _ _ _ h => h) (Or.inl ⟨by rfl, ?_⟩) ?_ ?_;rotate_left;intro w';go_simp;(with_reducible rfl);rotate_left;simp only [Act.put, nA, nZ, nS, i64_w, i32_w];rfl;refine done_ (by kernel_rfl) ?_

   clear p0 p1 hHeld;go_wp2;go_roundw
   case rel => exact ⟨j + 1, by omega, by go_num, HBN⟩
   case measure => simp [intOf]; omega
  have hj2 : ¬ (j : Int) < (ls.length : Int) := by omega
  have HPE := Hi (HP9.out.below HBI.out);go_wp2;go_roundw
  case rel => exact ⟨k + 1, vl1, vs1, vq1, vb1, vw1, _, _, by omega, by go_num, HPE⟩
  case measure => simp [intOf]; omega
 have hj2 : ¬ (k : Int) < (l.length : Int) := by omega
 have HFE := Hi (HLB.out.trans (HP.out.prog.low.mono HLB.out.size));go_wp2;go_ret;exact ⟨rfl, HFE.out⟩
set_option maxRecDepth 100000 in
theorem walk (a0 : Int) (v1 : Value) (W : World) {H : Type} {enc : TypeId × Value → H} {b1 : Nat} {d1 : DataW H} {p1 : List MemPlace} (w0 : (Lit.int .i64 a0).wf = true)
  (k1 : Value.okWide Tryz.prog W .any b1 22 v1) (h1 : DataW.Trod enc Tryz.prog W 0 (fun _ => true) true 22 v1 d1 p1) (hg : Glob W) :
  Calls Tryz.prog 5 #[.int .i64 a0, v1] W fun e w' => e = .returned (.bool true) ∧ Below W.heap.size W w' := by
 obtain ⟨A, c, l, rfl, hl, hf⟩ := Act.open_axs k1 h1;exact plays_run a0 l A c W hg hl hf
end Go.Proofs.YtibmfjacfbpfgaaGreatDoor.DiskPlays
