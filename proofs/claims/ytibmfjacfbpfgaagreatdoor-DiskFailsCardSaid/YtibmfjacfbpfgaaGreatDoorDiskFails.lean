/- DiskFails, walked. -/
import Derived.Test.YtibmfjacfbpfgaaGreatDoorPairG
set_option linter.unusedVariables false
set_option linter.unusedSimpArgs false
namespace Go.Proofs.YtibmfjacfbpfgaaGreatDoor.DiskFails
open Go.RowKit YtibmfjacfbpfgaaGreatDoorW PrintWords PrintLast PrintMore NameLaw NameCmp NameWalk NameRef NameUse YtibmfjacfbpfgaaGreatDoor.Item Own NodeRes TreeLaw SortIns SortSwap FillLaw DiffLaw RealLaw DoneLaw KeepLaw RealKeep OpLaw OpKeep DkLaw DAt DSmall DState DWait RDisk ROwnA ActLaw YtibmfjacfbpfgaaGreatDoor.Act DMake DWrite DRemove DRename DMeta DSync DFlush DCrash RDo RCrash Pair LawDo Light DStat DList Awake15
set_option maxHeartbeats 32000000 in
set_option maxRecDepth 100000 in
theorem fails_any (l : List Ax) (A : Option Addr) (c : Nat) (xdk : Int) (xpa xtp : ByteArray) (xkd xmo xui xgi xmt xat : Int) (xda : ByteArray) (xnum xkp xmk xct : Int) (W : World) (hg : Glob W) (hl : AxC W A l) (hfit : ∀ y ∈ l, FitX y) (hfx : FitX (xdk, xpa, xtp, (xkd, xmo, xui, xgi, xmt, xat, xda), xnum, xkp, xmk, xct)) :
  Calls Tryz.prog 4 #[.slice A l.length c, .agg #[.int .i64 xdk, .string xpa, .string xtp, .int .i64 xkd, .int .u32 xmo, .int .u32 xui, .int .u32 xgi, .int .i64 xmt, .int .i64 xat, .string xda, .int .i64 xnum, .int .i64 xkp, .int .u64 xmk, .int .i64 xct]] W fun e w' => e = .returned (.bool true) ∧ Below W.heap.size W w' := by
 have HL := Hi hl;have HFT := Hi hfit;have HFX := Hi hfx;have l1 := hl.2.1;have hb1 := below_one W (.cells #[.int .i64 xdk, .string xpa, .string xtp, .int .i64 xkd, .int .u32 xmo, .int .u32 xui, .int .u32 xgi, .int .i64 xmt, .int .i64 xat, .string xda, .int .i64 xnum, .int .i64 xkp, .int .u64 xmk, .int .i64 xct] 36);have HB1 := Hi hb1;have HG1 := Hi (hg.below hb1);have HX1 := Hi (heap_new W (.cells #[.int .i64 xdk, .string xpa, .string xtp, .int .i64 xkd, .int .u32 xmo, .int .u32 xui, .int .u32 xgi, .int .i64 xmt, .int .i64 xat, .string xda, .int .i64 xnum, .int .i64 xkp, .int .u64 xmk, .int .i64 xct] 36));clear hb1 hl hfit hfx;go_enter Tryz.func4, Tryz.ntmps4;have HAW := Hi (awake_any (W.alloc (.cells #[.int .i64 xdk, .string xpa, .string xtp, .int .i64 xkd, .int .u32 xmo, .int .u32 xui, .int .u32 xgi, .int .i64 xmt, .int .i64 xat, .string xda, .int .i64 xnum, .int .i64 xkp, .int .u64 xmk, .int .i64 xct] 36)) HG1.out)
 go_wp2_with fail
 refine HAW.out.mono ?_;rintro e w2 ⟨rfl, hb2⟩;have HB2 := Hi (below_next HB1.out hb2);have HX2 := Hi (Own.kp hb2 HX1.out);have HG2 := Hi (HG1.out.below hb2);clear hb2 HAW HX1 HG1 HB1;skip;have HLI := Hi (light_any l A c 20 w2 (Kd.C_below HL.out HB2.out))
 go_wp2_with fail
 refine HLI.out.mono ?_;rintro e w3 ⟨r1, rfl, hr1, hb3⟩;have HB3 := Hi (below_next HB2.out hb3);have HX3 := Hi (Own.kp hb3 HX2.out);have HG3 := Hi (HG2.out.below hb3);clear hb3 HLI HX2 HG2 HB2
 cases r1 with
 | false =>
  go_wp2;go_ret;exact ⟨rfl, HB3.out⟩
 | true =>
 have HR1 := Hi (hr1 rfl);clear hr1
 have hll : l.length ≤ 20 := by
  cases l with
  | nil => decide
  | cons y t => have := (HR1.out y (by simp)).1; omega
 obtain ⟨n0, n1, n2, n3, n4, n5, n6, n7, n8, n9, n10, n11, n12, n13⟩ := Own.cs14 HX3.out;have HLJ := Hi (light_any [(xdk, xpa, xtp, (xkd, xmo, xui, xgi, xmt, xat, xda), xnum, xkp, xmk, xct)] (some ⟨w3.heap.size, 0, none⟩) 1 1 (w3.alloc (.cells #[.int .i64 xdk, .string xpa, .string xtp, .int .i64 xkd, .int .u32 xmo, .int .u32 xui, .int .u32 xgi, .int .i64 xmt, .int .i64 xat, .string xda, .int .i64 xnum, .int .i64 xkp, .int .u64 xmk, .int .i64 xct] 36)) (axc_one (heap_new w3 (.cells #[.int .i64 xdk, .string xpa, .string xtp, .int .i64 xkd, .int .u32 xmo, .int .u32 xui, .int .u32 xgi, .int .i64 xmt, .int .i64 xat, .string xda, .int .i64 xnum, .int .i64 xkp, .int .u64 xmk, .int .i64 xct] 36)) rfl))
 go_wp2_with fail
 refine HLJ.out.mono ?_;rintro e w5 ⟨r2, rfl, hr2, hb5⟩;have HB5 := Hi (below_next (below_next HB3.out (below_one w3 (.cells #[.int .i64 xdk, .string xpa, .string xtp, .int .i64 xkd, .int .u32 xmo, .int .u32 xui, .int .u32 xgi, .int .i64 xmt, .int .i64 xat, .string xda, .int .i64 xnum, .int .i64 xkp, .int .u64 xmk, .int .i64 xct] 36))) hb5);have HX5 := Hi ((hb5.block _ (by have := (Own.lo HX3.out); have := (below_one w3 (.cells #[.int .i64 xdk, .string xpa, .string xtp, .int .i64 xkd, .int .u32 xmo, .int .u32 xui, .int .u32 xgi, .int .i64 xmt, .int .i64 xat, .string xda, .int .i64 xnum, .int .i64 xkp, .int .u64 xmk, .int .i64 xct] 36)).size; omega)).trans (((below_one w3 (.cells #[.int .i64 xdk, .string xpa, .string xtp, .int .i64 xkd, .int .u32 xmo, .int .u32 xui, .int .u32 xgi, .int .i64 xmt, .int .i64 xat, .string xda, .int .i64 xnum, .int .i64 xkp, .int .u64 xmk, .int .i64 xct] 36)).block _ (Own.lo HX3.out)).trans HX3.out));have HG5 := Hi ((HG3.out.below (below_one w3 (.cells #[.int .i64 xdk, .string xpa, .string xtp, .int .i64 xkd, .int .u32 xmo, .int .u32 xui, .int .u32 xgi, .int .i64 xmt, .int .i64 xat, .string xda, .int .i64 xnum, .int .i64 xkp, .int .u64 xmk, .int .i64 xct] 36))).below hb5);clear hb5 HLJ HX3 HG3 HB3 n0 n1 n2 n3 n4 n5 n6 n7 n8 n9 n10 n11 n12 n13
 cases r2 with
 | false =>
  go_wp2;go_ret;exact ⟨rfl, HB5.out⟩
 | true =>
 obtain ⟨_, hpx, htx, hdx⟩ := hr2 rfl _ (List.mem_singleton.2 rfl);have hpx : xpa.size ≤ 1000 := hpx;have htx : xtp.size ≤ 1000 := htx;have hdx : xda.size ≤ 1000 := hdx;clear hr2;have HNW := Hi (new_any 300 w5)
 go_wp2_with fail
 refine HNW.out.mono ?_;rintro e w6 ⟨rfl, hd6, hb6⟩;have HD6 := Hi hd6;have HB6 := Hi hb6;clear hd6 hb6 HNW;have HRN := Hi (rnew_any 300 w6)
 go_wp2_with fail
 refine HRN.out.mono ?_;rintro e w7 ⟨rfl, hd7, hb7⟩;have HP7 := Hi (pair_new HG5.out 300 HD6.out HB6.out hd7 hb7);have HXL := Hi (Own.lo HX5.out);have HLB := Hi HB5.out;clear hd7 hb7 HRN HD6 HB6 HB5;go_wp2
 go_loopw [30] (fun i wr => ∃ (k : Nat) (vl vs vq vb vw : Value) (d q : Dk), k ≤ l.length ∧ i = .int .i64 k ∧ Hid (Pair w5 wr w5.heap.size vl vs vq d w6.heap.size vb vw q k)) (fun i _ => l.length - (intOf i).toNat)
 case atStart => exact ⟨0, _, _, _, _, _, _, _, Nat.zero_le _, rfl, HP7⟩
 clear HP7;obtain ⟨k, vl, vs, vq, vb, vw, d, q, hk, rfl, HP⟩ := hrel
 by_cases hlt : k < l.length
 ·
  have hltI : (k : Int) < (l.length : Int) := by omega
  have HBW := Hi (pair_low HLB.out HP.out);obtain ⟨ad, hA, hget⟩ := ax_at (Kd.C_below HL.out HBW.out) hlt;subst hA;have hfx := HFT.out _ (List.getElem_mem hlt);have hok := HR1.out _ (List.getElem_mem hlt);generalize l[k] = x at hget hfx hok;obtain ⟨dk, pa, tp, ⟨kd, mo, ui, gi, mt, at_, da⟩, num, kp, mk, ct⟩ := x;obtain ⟨_, hpz, htz, hdz⟩ := hok;have hpz : pa.size ≤ 1000 := hpz;have htz : tp.size ≤ 1000 := htz;have hdz : da.size ≤ 1000 := hdz;have e0 : wr.cell? (ad.add (k * 14)) = some (.int .i64 dk) := hget 0 _ rfl;have e1 : wr.cell? ⟨(ad.add (k * 14)).block, (ad.add (k * 14)).off + 1, none⟩ = some (.string pa) := hget 1 _ rfl;have e2 : wr.cell? ⟨(ad.add (k * 14)).block, (ad.add (k * 14)).off + 2, none⟩ = some (.string tp) := hget 2 _ rfl;have e3 : wr.cell? ⟨(ad.add (k * 14)).block, (ad.add (k * 14)).off + 3, none⟩ = some (.int .i64 kd) := hget 3 _ rfl;have e4 : wr.cell? ⟨(ad.add (k * 14)).block, (ad.add (k * 14)).off + 4, none⟩ = some (.int .u32 mo) := hget 4 _ rfl;have e5 : wr.cell? ⟨(ad.add (k * 14)).block, (ad.add (k * 14)).off + 5, none⟩ = some (.int .u32 ui) := hget 5 _ rfl;have e6 : wr.cell? ⟨(ad.add (k * 14)).block, (ad.add (k * 14)).off + 6, none⟩ = some (.int .u32 gi) := hget 6 _ rfl;have e7 : wr.cell? ⟨(ad.add (k * 14)).block, (ad.add (k * 14)).off + 7, none⟩ = some (.int .i64 mt) := hget 7 _ rfl;have e8 : wr.cell? ⟨(ad.add (k * 14)).block, (ad.add (k * 14)).off + 8, none⟩ = some (.int .i64 at_) := hget 8 _ rfl;have e9 : wr.cell? ⟨(ad.add (k * 14)).block, (ad.add (k * 14)).off + 9, none⟩ = some (.string da) := hget 9 _ rfl;have e10 : wr.cell? ⟨(ad.add (k * 14)).block, (ad.add (k * 14)).off + 10, none⟩ = some (.int .i64 num) := hget 10 _ rfl;have e11 : wr.cell? ⟨(ad.add (k * 14)).block, (ad.add (k * 14)).off + 11, none⟩ = some (.int .i64 kp) := hget 11 _ rfl;have e12 : wr.cell? ⟨(ad.add (k * 14)).block, (ad.add (k * 14)).off + 12, none⟩ = some (.int .u64 mk) := hget 12 _ rfl;have e13 : wr.cell? ⟨(ad.add (k * 14)).block, (ad.add (k * 14)).off + 13, none⟩ = some (.int .i64 ct) := hget 13 _ rfl;clear hget;have HDO := Hi (do_any w5 (wr.alloc (.cells #[.int .i64 dk, .string pa, .string tp, .int .i64 kd, .int .u32 mo, .int .u32 ui, .int .u32 gi, .int .i64 mt, .int .i64 at_, .string da, .int .i64 num, .int .i64 kp, .int .u64 mk, .int .i64 ct] 36)) w5.heap.size vl vs vq d w6.heap.size vb vw q k (HP.out.below (below_one wr (.cells #[.int .i64 dk, .string pa, .string tp, .int .i64 kd, .int .u32 mo, .int .u32 ui, .int .u32 gi, .int .i64 mt, .int .i64 at_, .string da, .int .i64 num, .int .i64 kp, .int .u64 mk, .int .i64 ct] 36))) (by omega) dk pa tp kd mo ui gi mt at_ da num kp mk ct hfx hpz htz hdz);clear hfx HBW
  go_wp2_with fail
  refine HDO.out.mono ?_;rintro e w9 ⟨rfl, vl1, vs1, vq1, vb1, vw1, hp9, hs9⟩;have HP9 := Hi hp9;clear hp9 hs9 HDO HP;go_wp2;go_roundw
  case rel => exact ⟨k + 1, vl1, vs1, vq1, vb1, vw1, _, _, by omega, by go_num, HP9⟩
  case measure => simp [intOf]; omega
 have hj2 : ¬ (k : Int) < (l.length : Int) := by omega
 have HX := Hi ((HP.out.prog.low.block _ HXL.out).trans HX5.out);have hsl := HP.out.prog.bnd.shows.1;have hbl := HP.out.prog.bnd.len;have HA1 := Hi (all_any w5.heap.size _ vl vs vq d wr HP.out.prog.at_ (by omega))
 go_wp2_with fail
 refine HA1.out.mono ?_;rintro e w10 ⟨v9, rfl, hr9, hb⟩;obtain ⟨A9, c9, hv9, _, _⟩ := Kd.R_reads hr9;subst hv9;have HR9 := Hi hr9;have HO9 := Hi (Kd.R_base hr9);have HOL := Hi (owns_lt HP.out.prog.at_);have HQ := Hi (HP.out.prog.below hb);have HX := Hi (Own.kp hb HX.out);clear hr9 hb HA1 HP;have HA2 := Hi (lasts_any w5.heap.size _ vl vs vq d w10 HQ.out.at_ (by omega))
 go_wp2_with fail
 refine HA2.out.mono ?_;rintro e w11 ⟨v10, rfl, hr10, hb⟩;obtain ⟨A10, c10, hv10, _, _⟩ := Kd.R_reads hr10;subst hv10;have HR10 := Hi hr10;have HO10 := Hi (Kd.R_base hr10);have HOM := Hi (owns_lt HQ.out.at_);have HR9 := Hi (Kd.R_below HR9.out hb);have HQ := Hi (HQ.out.below hb);have HX := Hi (Own.kp hb HX.out);clear hr10 hb HA2;have HA3 := Hi (waits_any w5.heap.size _ vl vs vq d w11 HQ.out.at_)
 go_wp2_with fail
 refine HA3.out.mono ?_;rintro e w12 ⟨rfl, hb⟩;have HR9 := Hi (Kd.R_below HR9.out hb);have HR10 := Hi (Kd.R_below HR10.out hb);have HQ := Hi (HQ.out.below hb);have HX := Hi (Own.kp hb HX.out);clear hb HA3;have HA4 := Hi (steps_any w5.heap.size _ vl vs vq d w12 HQ.out.at_)
 go_wp2_with fail
 refine HA4.out.mono ?_;rintro e w13 ⟨rfl, hb⟩;have HR9 := Hi (Kd.R_below HR9.out hb);have HR10 := Hi (Kd.R_below HR10.out hb);have HQ := Hi (HQ.out.below hb);have HX := Hi (Own.kp hb HX.out);clear hb HA4;obtain ⟨n0, n1, n2, n3, n4, n5, n6, n7, n8, n9, n10, n11, n12, n13⟩ := Own.cs14 HX.out;obtain ⟨k7, hk7⟩ : ∃ k7, absR 7 xdk = k7 := ⟨_, rfl⟩;have hk0 := absR_le (show (0 : Int) < 7 by decide) xdk;rw [hk7] at hk0;have hcs : k7 = 0 ∨ k7 = 1 ∨ k7 = 2 ∨ k7 = 3 ∨ k7 = 4 ∨ k7 = 5 ∨ k7 = 6 := by omega
 have HCS := Hi hcs;clear hk0 hcs;unfold absR at hk7
 rcases HCS.out with rfl | rfl | rfl | rfl | rfl | rfl | rfl
 ·
  have hneg : ¬ xdk.tmod 7 < 0 := by split at hk7 <;> omega
  rw [if_neg hneg] at hk7;have hwk : Go.RowKit.wrap64 0 = 0 := by unfold Go.RowKit.wrap64; omega
  have HC := Hi (make_any w5 w13 _ vl vs vq d k HQ.out (by omega) xpa (by omega) xkd xmo xui xgi xmt xat xda (by omega));have HOK := Hi (fun h => op_ok (nz := nzP) (d := d) (k := 0) (path := xpa) (tp := ⟨#[]⟩) (n := (xkd, xmo, xui, xgi, xmt, xat, xda)) h);have HER := Hi (fun h => op_err (nz := nzP) (d := d) (k := 0) (path := xpa) (tp := ⟨#[]⟩) (n := (xkd, xmo, xui, xgi, xmt, xat, xda)) h);have HBN := Hi (op_bnd nzP_size HQ.out.trees HQ.out.bnd 0 xpa ⟨#[]⟩ (xkd, xmo, xui, xgi, xmt, xat, xda) (by first | decide | (show xda.size ≤ 100000; omega)));have hst0 := HQ.out.bnd.steps;generalize opD nzP d 0 xpa ⟨#[]⟩ (xkd, xmo, xui, xgi, xmt, xat, xda) = X at *
  go_wp2_with fail
  refine HC.out.mono ?_;rintro e w14 ⟨rfl, vl1, vs1, vq1, hd, hs⟩;have HD := Hi hd;have HR9 := Hi (R_stillS rfl HR9.out hs (fun z e o => by have := HO9.out z e; have := HOL.out z o; omega));have HR10 := Hi (R_stillS rfl HR10.out hs (fun z e o => by have := HO10.out z e; have := HOM.out z o; omega));have HB := Hi (HLB.out.trans ((Still.low hs HQ.out.low (Nat.le_refl _) (owns_base HQ.out.at_)).mono HLB.out.size));clear hd hs HC HQ n0 n1 n2 n3 n4 n5 n6 n7 n8 n9 n10 n11 n12 n13;obtain ⟨r, D⟩ := X;have hbn : D.shows.length ≤ k + 1 := HBN.out.shows.1;have hbm : D.base.length + D.waits.length ≤ k + 1 := HBN.out.len;clear HBN
  by_cases h0 : r = 0
  ·
   subst h0;have hst : D.steps = d.steps + 1 := HOK.out rfl;have hw2 : Go.RowKit.wrap64 (d.steps + 1) = d.steps + 1 := by unfold Go.RowKit.wrap64; omega
   have HS := Hi (steps_any w5.heap.size _ vl1 vs1 vq1 D w14 HD.out);rw [hst] at HS
   go_wp2_with fail
   refine HS.out.mono ?_;rintro e w15 ⟨rfl, hb⟩;have HF := Hi (below_next HB.out hb);clear hb HS;go_wp2;go_ret;exact ⟨rfl, HF.out⟩
  have q0 : (r == 0) = false := beq_eq_false_iff_ne.2 h0;obtain ⟨er1, er2, er3⟩ := HER.out h0;have er1 : D.base = d.base := er1;have er2 : D.waits = d.waits := er2;have er3 : D.steps = d.steps := er3;have er4 : D.shows = d.shows := shows_of er1 er2;have HE1 := Hi er1;have HE2 := Hi er2;have HE3 := Hi er3;have HE4 := Hi er4;clear er1 er2 er3 er4;have HC9 := Hi (Kd.R_reads' HR9.out).2.2;have HC10 := Hi (Kd.R_reads' HR10.out).2.2;have HS1 := Hi (all_any w5.heap.size _ vl1 vs1 vq1 D w14 HD.out (by omega));rw [HE4.out] at HS1
  go_wp2_with fail
  refine HS1.out.mono ?_;rintro e w15 ⟨v1, rfl, hr, hb⟩;obtain ⟨A1, c1, hv1, _, hC1⟩ := Kd.R_reads hr;subst hv1;have HB := Hi (below_next HB.out hb);have HD := Hi (HD.out.below hb);have HC9 := Hi (Kd.C_below HC9.out hb);have HC10 := Hi (Kd.C_below HC10.out hb);have HM1 := Hi (same_any d.shows d.shows A1 c1 A9 c9 w15 hC1 HC9.out);rw [decide_eq_true (rfl : d.shows = d.shows)] at HM1;clear hb hr hC1 HS1
  go_wp2_with fail
  refine HM1.out.mono ?_;rintro e w16 ⟨rfl, hb⟩;have HB := Hi (below_next HB.out hb);have HD := Hi (HD.out.below hb);have HC10 := Hi (Kd.C_below HC10.out hb);clear hb HM1;have HS2 := Hi (lasts_any w5.heap.size _ vl1 vs1 vq1 D w16 HD.out (by omega));rw [HE1.out] at HS2
  go_wp2_with fail
  refine HS2.out.mono ?_;rintro e w17 ⟨v2, rfl, hr, hb⟩;obtain ⟨A2, c2, hv2, _, hC2⟩ := Kd.R_reads hr;subst hv2;have HB := Hi (below_next HB.out hb);have HD := Hi (HD.out.below hb);have HC10 := Hi (Kd.C_below HC10.out hb);have HM2 := Hi (same_any d.base d.base A2 c2 A10 c10 w17 hC2 HC10.out);rw [decide_eq_true (rfl : d.base = d.base)] at HM2;clear hb hr hC2 HS2
  go_wp2_with fail
  refine HM2.out.mono ?_;rintro e w18 ⟨rfl, hb⟩;have HB := Hi (below_next HB.out hb);have HD := Hi (HD.out.below hb);clear hb HM2;have HS3 := Hi (waits_any w5.heap.size _ vl1 vs1 vq1 D w18 HD.out);rw [HE2.out] at HS3
  go_wp2_with fail
  refine HS3.out.mono ?_;rintro e w19 ⟨rfl, hb⟩;have HB := Hi (below_next HB.out hb);have HD := Hi (HD.out.below hb);clear hb HS3;have HS4 := Hi (steps_any w5.heap.size _ vl1 vs1 vq1 D w19 HD.out);rw [HE3.out] at HS4
  go_wp2_with fail
  refine HS4.out.mono ?_;rintro e w20 ⟨rfl, hb⟩;have HF := Hi (below_next HB.out hb);clear hb HS4;go_wp2;go_ret;exact ⟨rfl, HF.out⟩
 ·
  by_cases hneg : xdk.tmod 7 < 0 <;> (first | rw [if_pos hneg] at hk7 | rw [if_neg hneg] at hk7) <;> (
   have hwk : Go.RowKit.wrap64 1 = 1 := by unfold Go.RowKit.wrap64; omega
   have HC := Hi (write_any w5 w13 _ vl vs vq d k HQ.out (by omega) xpa (by omega) xda (by omega));have HOK := Hi (fun h => op_ok (nz := nzP) (d := d) (k := 1) (path := xpa) (tp := ⟨#[]⟩) (n := (0, 0, 0, 0, 0, 0, xda)) h);have HER := Hi (fun h => op_err (nz := nzP) (d := d) (k := 1) (path := xpa) (tp := ⟨#[]⟩) (n := (0, 0, 0, 0, 0, 0, xda)) h);have HBN := Hi (op_bnd nzP_size HQ.out.trees HQ.out.bnd 1 xpa ⟨#[]⟩ (0, 0, 0, 0, 0, 0, xda) (by first | decide | (show xda.size ≤ 100000; omega)));have hst0 := HQ.out.bnd.steps;generalize opD nzP d 1 xpa ⟨#[]⟩ (0, 0, 0, 0, 0, 0, xda) = X at *
   go_wp2_with fail
   refine HC.out.mono ?_;rintro e w14 ⟨rfl, vl1, vs1, vq1, hd, hs⟩;have HD := Hi hd;have HR9 := Hi (R_stillS rfl HR9.out hs (fun z e o => by have := HO9.out z e; have := HOL.out z o; omega));have HR10 := Hi (R_stillS rfl HR10.out hs (fun z e o => by have := HO10.out z e; have := HOM.out z o; omega));have HB := Hi (HLB.out.trans ((Still.low hs HQ.out.low (Nat.le_refl _) (owns_base HQ.out.at_)).mono HLB.out.size));clear hd hs HC HQ n0 n1 n2 n3 n4 n5 n6 n7 n8 n9 n10 n11 n12 n13;obtain ⟨r, D⟩ := X;have hbn : D.shows.length ≤ k + 1 := HBN.out.shows.1;have hbm : D.base.length + D.waits.length ≤ k + 1 := HBN.out.len;clear HBN
   by_cases h0 : r = 0
   ·
    subst h0;have hst : D.steps = d.steps + 1 := HOK.out rfl;have hw2 : Go.RowKit.wrap64 (d.steps + 1) = d.steps + 1 := by unfold Go.RowKit.wrap64; omega
    have HS := Hi (steps_any w5.heap.size _ vl1 vs1 vq1 D w14 HD.out);rw [hst] at HS
    go_wp2_with fail
    refine HS.out.mono ?_;rintro e w15 ⟨rfl, hb⟩;have HF := Hi (below_next HB.out hb);clear hb HS;go_wp2;go_ret;exact ⟨rfl, HF.out⟩
   have q0 : (r == 0) = false := beq_eq_false_iff_ne.2 h0;obtain ⟨er1, er2, er3⟩ := HER.out h0;have er1 : D.base = d.base := er1;have er2 : D.waits = d.waits := er2;have er3 : D.steps = d.steps := er3;have er4 : D.shows = d.shows := shows_of er1 er2;have HE1 := Hi er1;have HE2 := Hi er2;have HE3 := Hi er3;have HE4 := Hi er4;clear er1 er2 er3 er4;have HC9 := Hi (Kd.R_reads' HR9.out).2.2;have HC10 := Hi (Kd.R_reads' HR10.out).2.2;have HS1 := Hi (all_any w5.heap.size _ vl1 vs1 vq1 D w14 HD.out (by omega));rw [HE4.out] at HS1
   go_wp2_with fail
   refine HS1.out.mono ?_;rintro e w15 ⟨v1, rfl, hr, hb⟩;obtain ⟨A1, c1, hv1, _, hC1⟩ := Kd.R_reads hr;subst hv1;have HB := Hi (below_next HB.out hb);have HD := Hi (HD.out.below hb);have HC9 := Hi (Kd.C_below HC9.out hb);have HC10 := Hi (Kd.C_below HC10.out hb);have HM1 := Hi (same_any d.shows d.shows A1 c1 A9 c9 w15 hC1 HC9.out);rw [decide_eq_true (rfl : d.shows = d.shows)] at HM1;clear hb hr hC1 HS1
   go_wp2_with fail
   refine HM1.out.mono ?_;rintro e w16 ⟨rfl, hb⟩;have HB := Hi (below_next HB.out hb);have HD := Hi (HD.out.below hb);have HC10 := Hi (Kd.C_below HC10.out hb);clear hb HM1;have HS2 := Hi (lasts_any w5.heap.size _ vl1 vs1 vq1 D w16 HD.out (by omega));rw [HE1.out] at HS2
   go_wp2_with fail
   refine HS2.out.mono ?_;rintro e w17 ⟨v2, rfl, hr, hb⟩;obtain ⟨A2, c2, hv2, _, hC2⟩ := Kd.R_reads hr;subst hv2;have HB := Hi (below_next HB.out hb);have HD := Hi (HD.out.below hb);have HC10 := Hi (Kd.C_below HC10.out hb);have HM2 := Hi (same_any d.base d.base A2 c2 A10 c10 w17 hC2 HC10.out);rw [decide_eq_true (rfl : d.base = d.base)] at HM2;clear hb hr hC2 HS2
   go_wp2_with fail
   refine HM2.out.mono ?_;rintro e w18 ⟨rfl, hb⟩;have HB := Hi (below_next HB.out hb);have HD := Hi (HD.out.below hb);clear hb HM2;have HS3 := Hi (waits_any w5.heap.size _ vl1 vs1 vq1 D w18 HD.out);rw [HE2.out] at HS3
   go_wp2_with fail
   refine HS3.out.mono ?_;rintro e w19 ⟨rfl, hb⟩;have HB := Hi (below_next HB.out hb);have HD := Hi (HD.out.below hb);clear hb HS3;have HS4 := Hi (steps_any w5.heap.size _ vl1 vs1 vq1 D w19 HD.out);rw [HE3.out] at HS4
   go_wp2_with fail
   refine HS4.out.mono ?_;rintro e w20 ⟨rfl, hb⟩;have HF := Hi (below_next HB.out hb);clear hb HS4;go_wp2;go_ret
   exact ⟨rfl, HF.out⟩)
 ·
  by_cases hneg : xdk.tmod 7 < 0 <;> (first | rw [if_pos hneg] at hk7 | rw [if_neg hneg] at hk7) <;> (
   have hwk : Go.RowKit.wrap64 2 = 2 := by unfold Go.RowKit.wrap64; omega
   have HC := Hi (remove_any w5 w13 _ vl vs vq d k HQ.out (by omega) xpa (by omega));have HOK := Hi (fun h => op_ok (nz := nzP) (d := d) (k := 2) (path := xpa) (tp := ⟨#[]⟩) (n := (0, 0, 0, 0, 0, 0, ⟨#[]⟩)) h);have HER := Hi (fun h => op_err (nz := nzP) (d := d) (k := 2) (path := xpa) (tp := ⟨#[]⟩) (n := (0, 0, 0, 0, 0, 0, ⟨#[]⟩)) h);have HBN := Hi (op_bnd nzP_size HQ.out.trees HQ.out.bnd 2 xpa ⟨#[]⟩ (0, 0, 0, 0, 0, 0, ⟨#[]⟩) (by first | decide | (show xda.size ≤ 100000; omega)));have hst0 := HQ.out.bnd.steps;generalize opD nzP d 2 xpa ⟨#[]⟩ (0, 0, 0, 0, 0, 0, ⟨#[]⟩) = X at *
   go_wp2_with fail
   refine HC.out.mono ?_;rintro e w14 ⟨rfl, vl1, vs1, vq1, hd, hs⟩;have HD := Hi hd;have HR9 := Hi (R_stillS rfl HR9.out hs (fun z e o => by have := HO9.out z e; have := HOL.out z o; omega));have HR10 := Hi (R_stillS rfl HR10.out hs (fun z e o => by have := HO10.out z e; have := HOM.out z o; omega));have HB := Hi (HLB.out.trans ((Still.low hs HQ.out.low (Nat.le_refl _) (owns_base HQ.out.at_)).mono HLB.out.size));clear hd hs HC HQ n0 n1 n2 n3 n4 n5 n6 n7 n8 n9 n10 n11 n12 n13;obtain ⟨r, D⟩ := X;have hbn : D.shows.length ≤ k + 1 := HBN.out.shows.1;have hbm : D.base.length + D.waits.length ≤ k + 1 := HBN.out.len;clear HBN
   by_cases h0 : r = 0
   ·
    subst h0;have hst : D.steps = d.steps + 1 := HOK.out rfl;have hw2 : Go.RowKit.wrap64 (d.steps + 1) = d.steps + 1 := by unfold Go.RowKit.wrap64; omega
    have HS := Hi (steps_any w5.heap.size _ vl1 vs1 vq1 D w14 HD.out);rw [hst] at HS
    go_wp2_with fail
    refine HS.out.mono ?_;rintro e w15 ⟨rfl, hb⟩;have HF := Hi (below_next HB.out hb);clear hb HS;go_wp2;go_ret;exact ⟨rfl, HF.out⟩
   have q0 : (r == 0) = false := beq_eq_false_iff_ne.2 h0;obtain ⟨er1, er2, er3⟩ := HER.out h0;have er1 : D.base = d.base := er1;have er2 : D.waits = d.waits := er2;have er3 : D.steps = d.steps := er3;have er4 : D.shows = d.shows := shows_of er1 er2;have HE1 := Hi er1;have HE2 := Hi er2;have HE3 := Hi er3;have HE4 := Hi er4;clear er1 er2 er3 er4;have HC9 := Hi (Kd.R_reads' HR9.out).2.2;have HC10 := Hi (Kd.R_reads' HR10.out).2.2;have HS1 := Hi (all_any w5.heap.size _ vl1 vs1 vq1 D w14 HD.out (by omega));rw [HE4.out] at HS1
   go_wp2_with fail
   refine HS1.out.mono ?_;rintro e w15 ⟨v1, rfl, hr, hb⟩;obtain ⟨A1, c1, hv1, _, hC1⟩ := Kd.R_reads hr;subst hv1;have HB := Hi (below_next HB.out hb);have HD := Hi (HD.out.below hb);have HC9 := Hi (Kd.C_below HC9.out hb);have HC10 := Hi (Kd.C_below HC10.out hb);have HM1 := Hi (same_any d.shows d.shows A1 c1 A9 c9 w15 hC1 HC9.out);rw [decide_eq_true (rfl : d.shows = d.shows)] at HM1;clear hb hr hC1 HS1
   go_wp2_with fail
   refine HM1.out.mono ?_;rintro e w16 ⟨rfl, hb⟩;have HB := Hi (below_next HB.out hb);have HD := Hi (HD.out.below hb);have HC10 := Hi (Kd.C_below HC10.out hb);clear hb HM1;have HS2 := Hi (lasts_any w5.heap.size _ vl1 vs1 vq1 D w16 HD.out (by omega));rw [HE1.out] at HS2
   go_wp2_with fail
   refine HS2.out.mono ?_;rintro e w17 ⟨v2, rfl, hr, hb⟩;obtain ⟨A2, c2, hv2, _, hC2⟩ := Kd.R_reads hr;subst hv2;have HB := Hi (below_next HB.out hb);have HD := Hi (HD.out.below hb);have HC10 := Hi (Kd.C_below HC10.out hb);have HM2 := Hi (same_any d.base d.base A2 c2 A10 c10 w17 hC2 HC10.out);rw [decide_eq_true (rfl : d.base = d.base)] at HM2;clear hb hr hC2 HS2
   go_wp2_with fail
   refine HM2.out.mono ?_;rintro e w18 ⟨rfl, hb⟩;have HB := Hi (below_next HB.out hb);have HD := Hi (HD.out.below hb);clear hb HM2;have HS3 := Hi (waits_any w5.heap.size _ vl1 vs1 vq1 D w18 HD.out);rw [HE2.out] at HS3
   go_wp2_with fail
   refine HS3.out.mono ?_;rintro e w19 ⟨rfl, hb⟩;have HB := Hi (below_next HB.out hb);have HD := Hi (HD.out.below hb);clear hb HS3;have HS4 := Hi (steps_any w5.heap.size _ vl1 vs1 vq1 D w19 HD.out);rw [HE3.out] at HS4
   go_wp2_with fail
   refine HS4.out.mono ?_;rintro e w20 ⟨rfl, hb⟩;have HF := Hi (below_next HB.out hb);clear hb HS4;go_wp2;go_ret
   exact ⟨rfl, HF.out⟩)
 ·
  by_cases hneg : xdk.tmod 7 < 0 <;> (first | rw [if_pos hneg] at hk7 | rw [if_neg hneg] at hk7) <;> (
   have hwk : Go.RowKit.wrap64 3 = 3 := by unfold Go.RowKit.wrap64; omega
   have HC := Hi (rename_any w5 w13 _ vl vs vq d k HQ.out (by omega) xpa (by omega) xtp (by omega));have HOK := Hi (fun h => op_ok (nz := nzP) (d := d) (k := 3) (path := xpa) (tp := xtp) (n := (0, 0, 0, 0, 0, 0, ⟨#[]⟩)) h);have HER := Hi (fun h => op_err (nz := nzP) (d := d) (k := 3) (path := xpa) (tp := xtp) (n := (0, 0, 0, 0, 0, 0, ⟨#[]⟩)) h);have HBN := Hi (op_bnd nzP_size HQ.out.trees HQ.out.bnd 3 xpa xtp (0, 0, 0, 0, 0, 0, ⟨#[]⟩) (by first | decide | (show xda.size ≤ 100000; omega)));have hst0 := HQ.out.bnd.steps;generalize opD nzP d 3 xpa xtp (0, 0, 0, 0, 0, 0, ⟨#[]⟩) = X at *
   go_wp2_with fail
   refine HC.out.mono ?_;rintro e w14 ⟨rfl, vl1, vs1, vq1, hd, hs⟩;have HD := Hi hd;have HR9 := Hi (R_stillS rfl HR9.out hs (fun z e o => by have := HO9.out z e; have := HOL.out z o; omega));have HR10 := Hi (R_stillS rfl HR10.out hs (fun z e o => by have := HO10.out z e; have := HOM.out z o; omega));have HB := Hi (HLB.out.trans ((Still.low hs HQ.out.low (Nat.le_refl _) (owns_base HQ.out.at_)).mono HLB.out.size));clear hd hs HC HQ n0 n1 n2 n3 n4 n5 n6 n7 n8 n9 n10 n11 n12 n13;obtain ⟨r, D⟩ := X;have hbn : D.shows.length ≤ k + 1 := HBN.out.shows.1;have hbm : D.base.length + D.waits.length ≤ k + 1 := HBN.out.len;clear HBN
   by_cases h0 : r = 0
   ·
    subst h0;have hst : D.steps = d.steps + 1 := HOK.out rfl;have hw2 : Go.RowKit.wrap64 (d.steps + 1) = d.steps + 1 := by unfold Go.RowKit.wrap64; omega
    have HS := Hi (steps_any w5.heap.size _ vl1 vs1 vq1 D w14 HD.out);rw [hst] at HS
    go_wp2_with fail
    refine HS.out.mono ?_;rintro e w15 ⟨rfl, hb⟩;have HF := Hi (below_next HB.out hb);clear hb HS;go_wp2;go_ret;exact ⟨rfl, HF.out⟩
   have q0 : (r == 0) = false := beq_eq_false_iff_ne.2 h0;obtain ⟨er1, er2, er3⟩ := HER.out h0;have er1 : D.base = d.base := er1;have er2 : D.waits = d.waits := er2;have er3 : D.steps = d.steps := er3;have er4 : D.shows = d.shows := shows_of er1 er2;have HE1 := Hi er1;have HE2 := Hi er2;have HE3 := Hi er3;have HE4 := Hi er4;clear er1 er2 er3 er4;have HC9 := Hi (Kd.R_reads' HR9.out).2.2;have HC10 := Hi (Kd.R_reads' HR10.out).2.2;have HS1 := Hi (all_any w5.heap.size _ vl1 vs1 vq1 D w14 HD.out (by omega));rw [HE4.out] at HS1
   go_wp2_with fail
   refine HS1.out.mono ?_;rintro e w15 ⟨v1, rfl, hr, hb⟩;obtain ⟨A1, c1, hv1, _, hC1⟩ := Kd.R_reads hr;subst hv1;have HB := Hi (below_next HB.out hb);have HD := Hi (HD.out.below hb);have HC9 := Hi (Kd.C_below HC9.out hb);have HC10 := Hi (Kd.C_below HC10.out hb);have HM1 := Hi (same_any d.shows d.shows A1 c1 A9 c9 w15 hC1 HC9.out);rw [decide_eq_true (rfl : d.shows = d.shows)] at HM1;clear hb hr hC1 HS1
   go_wp2_with fail
   refine HM1.out.mono ?_;rintro e w16 ⟨rfl, hb⟩;have HB := Hi (below_next HB.out hb);have HD := Hi (HD.out.below hb);have HC10 := Hi (Kd.C_below HC10.out hb);clear hb HM1;have HS2 := Hi (lasts_any w5.heap.size _ vl1 vs1 vq1 D w16 HD.out (by omega));rw [HE1.out] at HS2
   go_wp2_with fail
   refine HS2.out.mono ?_;rintro e w17 ⟨v2, rfl, hr, hb⟩;obtain ⟨A2, c2, hv2, _, hC2⟩ := Kd.R_reads hr;subst hv2;have HB := Hi (below_next HB.out hb);have HD := Hi (HD.out.below hb);have HC10 := Hi (Kd.C_below HC10.out hb);have HM2 := Hi (same_any d.base d.base A2 c2 A10 c10 w17 hC2 HC10.out);rw [decide_eq_true (rfl : d.base = d.base)] at HM2;clear hb hr hC2 HS2
   go_wp2_with fail
   refine HM2.out.mono ?_;rintro e w18 ⟨rfl, hb⟩;have HB := Hi (below_next HB.out hb);have HD := Hi (HD.out.below hb);clear hb HM2;have HS3 := Hi (waits_any w5.heap.size _ vl1 vs1 vq1 D w18 HD.out);rw [HE2.out] at HS3
   go_wp2_with fail
   refine HS3.out.mono ?_;rintro e w19 ⟨rfl, hb⟩;have HB := Hi (below_next HB.out hb);have HD := Hi (HD.out.below hb);clear hb HS3;have HS4 := Hi (steps_any w5.heap.size _ vl1 vs1 vq1 D w19 HD.out);rw [HE3.out] at HS4
   go_wp2_with fail
   refine HS4.out.mono ?_;rintro e w20 ⟨rfl, hb⟩;have HF := Hi (below_next HB.out hb);clear hb HS4;go_wp2;go_ret
   exact ⟨rfl, HF.out⟩)
 ·
  by_cases hneg : xdk.tmod 7 < 0 <;> (first | rw [if_pos hneg] at hk7 | rw [if_neg hneg] at hk7) <;> (
   have hwk : Go.RowKit.wrap64 4 = 4 := by unfold Go.RowKit.wrap64; omega
   have HC := Hi (meta_any w5 w13 _ vl vs vq d k HQ.out (by omega) xpa (by omega) xkd xmo xui xgi xmt xat xda);have HOK := Hi (fun h => op_ok (nz := nzP) (d := d) (k := 4) (path := xpa) (tp := ⟨#[]⟩) (n := (xkd, xmo, xui, xgi, xmt, xat, xda)) h);have HER := Hi (fun h => op_err (nz := nzP) (d := d) (k := 4) (path := xpa) (tp := ⟨#[]⟩) (n := (xkd, xmo, xui, xgi, xmt, xat, xda)) h);have HBN := Hi (op_bnd nzP_size HQ.out.trees HQ.out.bnd 4 xpa ⟨#[]⟩ (xkd, xmo, xui, xgi, xmt, xat, xda) (by first | decide | (show xda.size ≤ 100000; omega)));have hst0 := HQ.out.bnd.steps;generalize opD nzP d 4 xpa ⟨#[]⟩ (xkd, xmo, xui, xgi, xmt, xat, xda) = X at *
   go_wp2_with fail
   refine HC.out.mono ?_;rintro e w14 ⟨rfl, vl1, vs1, vq1, hd, hs⟩;have HD := Hi hd;have HR9 := Hi (R_stillS rfl HR9.out hs (fun z e o => by have := HO9.out z e; have := HOL.out z o; omega));have HR10 := Hi (R_stillS rfl HR10.out hs (fun z e o => by have := HO10.out z e; have := HOM.out z o; omega));have HB := Hi (HLB.out.trans ((Still.low hs HQ.out.low (Nat.le_refl _) (owns_base HQ.out.at_)).mono HLB.out.size));clear hd hs HC HQ n0 n1 n2 n3 n4 n5 n6 n7 n8 n9 n10 n11 n12 n13;obtain ⟨r, D⟩ := X;have hbn : D.shows.length ≤ k + 1 := HBN.out.shows.1;have hbm : D.base.length + D.waits.length ≤ k + 1 := HBN.out.len;clear HBN
   by_cases h0 : r = 0
   ·
    subst h0;have hst : D.steps = d.steps + 1 := HOK.out rfl;have hw2 : Go.RowKit.wrap64 (d.steps + 1) = d.steps + 1 := by unfold Go.RowKit.wrap64; omega
    have HS := Hi (steps_any w5.heap.size _ vl1 vs1 vq1 D w14 HD.out);rw [hst] at HS
    go_wp2_with fail
    refine HS.out.mono ?_;rintro e w15 ⟨rfl, hb⟩;have HF := Hi (below_next HB.out hb);clear hb HS;go_wp2;go_ret;exact ⟨rfl, HF.out⟩
   have q0 : (r == 0) = false := beq_eq_false_iff_ne.2 h0;obtain ⟨er1, er2, er3⟩ := HER.out h0;have er1 : D.base = d.base := er1;have er2 : D.waits = d.waits := er2;have er3 : D.steps = d.steps := er3;have er4 : D.shows = d.shows := shows_of er1 er2;have HE1 := Hi er1;have HE2 := Hi er2;have HE3 := Hi er3;have HE4 := Hi er4;clear er1 er2 er3 er4;have HC9 := Hi (Kd.R_reads' HR9.out).2.2;have HC10 := Hi (Kd.R_reads' HR10.out).2.2;have HS1 := Hi (all_any w5.heap.size _ vl1 vs1 vq1 D w14 HD.out (by omega));rw [HE4.out] at HS1
   go_wp2_with fail
   refine HS1.out.mono ?_;rintro e w15 ⟨v1, rfl, hr, hb⟩;obtain ⟨A1, c1, hv1, _, hC1⟩ := Kd.R_reads hr;subst hv1;have HB := Hi (below_next HB.out hb);have HD := Hi (HD.out.below hb);have HC9 := Hi (Kd.C_below HC9.out hb);have HC10 := Hi (Kd.C_below HC10.out hb);have HM1 := Hi (same_any d.shows d.shows A1 c1 A9 c9 w15 hC1 HC9.out);rw [decide_eq_true (rfl : d.shows = d.shows)] at HM1;clear hb hr hC1 HS1
   go_wp2_with fail
   refine HM1.out.mono ?_;rintro e w16 ⟨rfl, hb⟩;have HB := Hi (below_next HB.out hb);have HD := Hi (HD.out.below hb);have HC10 := Hi (Kd.C_below HC10.out hb);clear hb HM1;have HS2 := Hi (lasts_any w5.heap.size _ vl1 vs1 vq1 D w16 HD.out (by omega));rw [HE1.out] at HS2
   go_wp2_with fail
   refine HS2.out.mono ?_;rintro e w17 ⟨v2, rfl, hr, hb⟩;obtain ⟨A2, c2, hv2, _, hC2⟩ := Kd.R_reads hr;subst hv2;have HB := Hi (below_next HB.out hb);have HD := Hi (HD.out.below hb);have HC10 := Hi (Kd.C_below HC10.out hb);have HM2 := Hi (same_any d.base d.base A2 c2 A10 c10 w17 hC2 HC10.out);rw [decide_eq_true (rfl : d.base = d.base)] at HM2;clear hb hr hC2 HS2
   go_wp2_with fail
   refine HM2.out.mono ?_;rintro e w18 ⟨rfl, hb⟩;have HB := Hi (below_next HB.out hb);have HD := Hi (HD.out.below hb);clear hb HM2;have HS3 := Hi (waits_any w5.heap.size _ vl1 vs1 vq1 D w18 HD.out);rw [HE2.out] at HS3
   go_wp2_with fail
   refine HS3.out.mono ?_;rintro e w19 ⟨rfl, hb⟩;have HB := Hi (below_next HB.out hb);have HD := Hi (HD.out.below hb);clear hb HS3;have HS4 := Hi (steps_any w5.heap.size _ vl1 vs1 vq1 D w19 HD.out);rw [HE3.out] at HS4
   go_wp2_with fail
   refine HS4.out.mono ?_;rintro e w20 ⟨rfl, hb⟩;have HF := Hi (below_next HB.out hb);clear hb HS4;go_wp2;go_ret
   exact ⟨rfl, HF.out⟩)
 ·
  by_cases hneg : xdk.tmod 7 < 0 <;> (first | rw [if_pos hneg] at hk7 | rw [if_neg hneg] at hk7) <;> (
   have hwk : Go.RowKit.wrap64 5 = 5 := by unfold Go.RowKit.wrap64; omega
   have HC := Hi (sync_any w5 w13 _ vl vs vq d k HQ.out (by omega) xpa (by omega) (xkd, xmo, xui, xgi, xmt, xat, xda));have HOK := Hi (fun h => op_ok (nz := nzP) (d := d) (k := 5) (path := xpa) (tp := ⟨#[]⟩) (n := (xkd, xmo, xui, xgi, xmt, xat, xda)) h);have HER := Hi (fun h => op_err (nz := nzP) (d := d) (k := 5) (path := xpa) (tp := ⟨#[]⟩) (n := (xkd, xmo, xui, xgi, xmt, xat, xda)) h);have HBN := Hi (op_bnd nzP_size HQ.out.trees HQ.out.bnd 5 xpa ⟨#[]⟩ (xkd, xmo, xui, xgi, xmt, xat, xda) (by first | decide | (show xda.size ≤ 100000; omega)));have hst0 := HQ.out.bnd.steps;generalize opD nzP d 5 xpa ⟨#[]⟩ (xkd, xmo, xui, xgi, xmt, xat, xda) = X at *
   go_wp2_with fail
   refine HC.out.mono ?_;rintro e w14 ⟨rfl, vl1, vs1, vq1, hd, hs⟩;have HD := Hi hd;have HR9 := Hi (R_stillS rfl HR9.out hs (fun z e o => by have := HO9.out z e; have := HOL.out z o; omega));have HR10 := Hi (R_stillS rfl HR10.out hs (fun z e o => by have := HO10.out z e; have := HOM.out z o; omega));have HB := Hi (HLB.out.trans ((Still.low hs HQ.out.low (Nat.le_refl _) (owns_base HQ.out.at_)).mono HLB.out.size));clear hd hs HC HQ n0 n1 n2 n3 n4 n5 n6 n7 n8 n9 n10 n11 n12 n13;obtain ⟨r, D⟩ := X;have hbn : D.shows.length ≤ k + 1 := HBN.out.shows.1;have hbm : D.base.length + D.waits.length ≤ k + 1 := HBN.out.len;clear HBN
   by_cases h0 : r = 0
   ·
    subst h0;have hst : D.steps = d.steps + 1 := HOK.out rfl;have hw2 : Go.RowKit.wrap64 (d.steps + 1) = d.steps + 1 := by unfold Go.RowKit.wrap64; omega
    have HS := Hi (steps_any w5.heap.size _ vl1 vs1 vq1 D w14 HD.out);rw [hst] at HS
    go_wp2_with fail
    refine HS.out.mono ?_;rintro e w15 ⟨rfl, hb⟩;have HF := Hi (below_next HB.out hb);clear hb HS;go_wp2;go_ret;exact ⟨rfl, HF.out⟩
   have q0 : (r == 0) = false := beq_eq_false_iff_ne.2 h0;obtain ⟨er1, er2, er3⟩ := HER.out h0;have er1 : D.base = d.base := er1;have er2 : D.waits = d.waits := er2;have er3 : D.steps = d.steps := er3;have er4 : D.shows = d.shows := shows_of er1 er2;have HE1 := Hi er1;have HE2 := Hi er2;have HE3 := Hi er3;have HE4 := Hi er4;clear er1 er2 er3 er4;have HC9 := Hi (Kd.R_reads' HR9.out).2.2;have HC10 := Hi (Kd.R_reads' HR10.out).2.2;have HS1 := Hi (all_any w5.heap.size _ vl1 vs1 vq1 D w14 HD.out (by omega));rw [HE4.out] at HS1
   go_wp2_with fail
   refine HS1.out.mono ?_;rintro e w15 ⟨v1, rfl, hr, hb⟩;obtain ⟨A1, c1, hv1, _, hC1⟩ := Kd.R_reads hr;subst hv1;have HB := Hi (below_next HB.out hb);have HD := Hi (HD.out.below hb);have HC9 := Hi (Kd.C_below HC9.out hb);have HC10 := Hi (Kd.C_below HC10.out hb);have HM1 := Hi (same_any d.shows d.shows A1 c1 A9 c9 w15 hC1 HC9.out);rw [decide_eq_true (rfl : d.shows = d.shows)] at HM1;clear hb hr hC1 HS1
   go_wp2_with fail
   refine HM1.out.mono ?_;rintro e w16 ⟨rfl, hb⟩;have HB := Hi (below_next HB.out hb);have HD := Hi (HD.out.below hb);have HC10 := Hi (Kd.C_below HC10.out hb);clear hb HM1;have HS2 := Hi (lasts_any w5.heap.size _ vl1 vs1 vq1 D w16 HD.out (by omega));rw [HE1.out] at HS2
   go_wp2_with fail
   refine HS2.out.mono ?_;rintro e w17 ⟨v2, rfl, hr, hb⟩;obtain ⟨A2, c2, hv2, _, hC2⟩ := Kd.R_reads hr;subst hv2;have HB := Hi (below_next HB.out hb);have HD := Hi (HD.out.below hb);have HC10 := Hi (Kd.C_below HC10.out hb);have HM2 := Hi (same_any d.base d.base A2 c2 A10 c10 w17 hC2 HC10.out);rw [decide_eq_true (rfl : d.base = d.base)] at HM2;clear hb hr hC2 HS2
   go_wp2_with fail
   refine HM2.out.mono ?_;rintro e w18 ⟨rfl, hb⟩;have HB := Hi (below_next HB.out hb);have HD := Hi (HD.out.below hb);clear hb HM2;have HS3 := Hi (waits_any w5.heap.size _ vl1 vs1 vq1 D w18 HD.out);rw [HE2.out] at HS3
   go_wp2_with fail
   refine HS3.out.mono ?_;rintro e w19 ⟨rfl, hb⟩;have HB := Hi (below_next HB.out hb);have HD := Hi (HD.out.below hb);clear hb HS3;have HS4 := Hi (steps_any w5.heap.size _ vl1 vs1 vq1 D w19 HD.out);rw [HE3.out] at HS4
   go_wp2_with fail
   refine HS4.out.mono ?_;rintro e w20 ⟨rfl, hb⟩;have HF := Hi (below_next HB.out hb);clear hb HS4;go_wp2;go_ret
   exact ⟨rfl, HF.out⟩)
 by_cases hneg : xdk.tmod 7 < 0 <;> (first | rw [if_pos hneg] at hk7 | rw [if_neg hneg] at hk7) <;> (
  have hwk : Go.RowKit.wrap64 6 = 6 := by unfold Go.RowKit.wrap64; omega
  have HC := Hi (flush_any w5 w13 _ vl vs vq d k HQ.out (by omega) xpa xtp (xkd, xmo, xui, xgi, xmt, xat, xda));have HOK := Hi (fun h => op_ok (nz := nzP) (d := d) (k := 6) (path := xpa) (tp := xtp) (n := (xkd, xmo, xui, xgi, xmt, xat, xda)) h);have HER := Hi (fun h => op_err (nz := nzP) (d := d) (k := 6) (path := xpa) (tp := xtp) (n := (xkd, xmo, xui, xgi, xmt, xat, xda)) h);have HBN := Hi (op_bnd nzP_size HQ.out.trees HQ.out.bnd 6 xpa xtp (xkd, xmo, xui, xgi, xmt, xat, xda) (by first | decide | (show xda.size ≤ 100000; omega)));have hst0 := HQ.out.bnd.steps;generalize opD nzP d 6 xpa xtp (xkd, xmo, xui, xgi, xmt, xat, xda) = X at *
  go_wp2_with fail
  refine HC.out.mono ?_;rintro e w14 ⟨rfl, vl1, vs1, vq1, hd, hs⟩;have HD := Hi hd;have HR9 := Hi (R_stillS rfl HR9.out hs (fun z e o => by have := HO9.out z e; have := HOL.out z o; omega));have HR10 := Hi (R_stillS rfl HR10.out hs (fun z e o => by have := HO10.out z e; have := HOM.out z o; omega));have HB := Hi (HLB.out.trans ((Still.low hs HQ.out.low (Nat.le_refl _) (owns_base HQ.out.at_)).mono HLB.out.size));clear hd hs HC HQ n0 n1 n2 n3 n4 n5 n6 n7 n8 n9 n10 n11 n12 n13;obtain ⟨r, D⟩ := X;have hbn : D.shows.length ≤ k + 1 := HBN.out.shows.1;have hbm : D.base.length + D.waits.length ≤ k + 1 := HBN.out.len;clear HBN
  by_cases h0 : r = 0
  ·
   subst h0;have hst : D.steps = d.steps + 1 := HOK.out rfl;have hw2 : Go.RowKit.wrap64 (d.steps + 1) = d.steps + 1 := by unfold Go.RowKit.wrap64; omega
   have HS := Hi (steps_any w5.heap.size _ vl1 vs1 vq1 D w14 HD.out);rw [hst] at HS
   go_wp2_with fail
   refine HS.out.mono ?_;rintro e w15 ⟨rfl, hb⟩;have HF := Hi (below_next HB.out hb);clear hb HS;go_wp2;go_ret;exact ⟨rfl, HF.out⟩
  have q0 : (r == 0) = false := beq_eq_false_iff_ne.2 h0;obtain ⟨er1, er2, er3⟩ := HER.out h0;have er1 : D.base = d.base := er1;have er2 : D.waits = d.waits := er2;have er3 : D.steps = d.steps := er3;have er4 : D.shows = d.shows := shows_of er1 er2;have HE1 := Hi er1;have HE2 := Hi er2;have HE3 := Hi er3;have HE4 := Hi er4;clear er1 er2 er3 er4;have HC9 := Hi (Kd.R_reads' HR9.out).2.2;have HC10 := Hi (Kd.R_reads' HR10.out).2.2;have HS1 := Hi (all_any w5.heap.size _ vl1 vs1 vq1 D w14 HD.out (by omega));rw [HE4.out] at HS1
  go_wp2_with fail
  refine HS1.out.mono ?_;rintro e w15 ⟨v1, rfl, hr, hb⟩;obtain ⟨A1, c1, hv1, _, hC1⟩ := Kd.R_reads hr;subst hv1;have HB := Hi (below_next HB.out hb);have HD := Hi (HD.out.below hb);have HC9 := Hi (Kd.C_below HC9.out hb);have HC10 := Hi (Kd.C_below HC10.out hb);have HM1 := Hi (same_any d.shows d.shows A1 c1 A9 c9 w15 hC1 HC9.out);rw [decide_eq_true (rfl : d.shows = d.shows)] at HM1;clear hb hr hC1 HS1
  go_wp2_with fail
  refine HM1.out.mono ?_;rintro e w16 ⟨rfl, hb⟩;have HB := Hi (below_next HB.out hb);have HD := Hi (HD.out.below hb);have HC10 := Hi (Kd.C_below HC10.out hb);clear hb HM1;have HS2 := Hi (lasts_any w5.heap.size _ vl1 vs1 vq1 D w16 HD.out (by omega));rw [HE1.out] at HS2
  go_wp2_with fail
  refine HS2.out.mono ?_;rintro e w17 ⟨v2, rfl, hr, hb⟩;obtain ⟨A2, c2, hv2, _, hC2⟩ := Kd.R_reads hr;subst hv2;have HB := Hi (below_next HB.out hb);have HD := Hi (HD.out.below hb);have HC10 := Hi (Kd.C_below HC10.out hb);have HM2 := Hi (same_any d.base d.base A2 c2 A10 c10 w17 hC2 HC10.out);rw [decide_eq_true (rfl : d.base = d.base)] at HM2;clear hb hr hC2 HS2
  go_wp2_with fail
  refine HM2.out.mono ?_;rintro e w18 ⟨rfl, hb⟩;have HB := Hi (below_next HB.out hb);have HD := Hi (HD.out.below hb);clear hb HM2;have HS3 := Hi (waits_any w5.heap.size _ vl1 vs1 vq1 D w18 HD.out);rw [HE2.out] at HS3
  go_wp2_with fail
  refine HS3.out.mono ?_;rintro e w19 ⟨rfl, hb⟩;have HB := Hi (below_next HB.out hb);have HD := Hi (HD.out.below hb);clear hb HS3;have HS4 := Hi (steps_any w5.heap.size _ vl1 vs1 vq1 D w19 HD.out);rw [HE3.out] at HS4
  go_wp2_with fail
  refine HS4.out.mono ?_;rintro e w20 ⟨rfl, hb⟩;have HF := Hi (below_next HB.out hb);clear hb HS4;go_wp2;go_ret
  exact ⟨rfl, HF.out⟩)
set_option maxRecDepth 100000 in
theorem walk (v0 v1 : Value) (W : World) {H : Type} {enc : TypeId × Value → H} {b0 b1 : Nat} {d0 d1 : DataW H} {p0 p1 : List MemPlace}
  (k0 : Value.okWide Tryz.prog W .any b0 22 v0) (h0 : DataW.Trod enc Tryz.prog W 0 (fun _ => true) true 22 v0 d0 p0)
  (k1 : Value.okWide Tryz.prog W .any b1 36 v1) (h1 : DataW.Trod enc Tryz.prog W 0 (fun _ => true) true 36 v1 d1 p1) (hg : Glob W) :
  Calls Tryz.prog 4 #[v0, v1] W fun e w' => e = .returned (.bool true) ∧ Below W.heap.size W w' := by
 obtain ⟨A, c, l, rfl, hl, hf⟩ := Act.open_axs k0 h0;obtain ⟨⟨xdk, xpa, xtp, ⟨xkd, xmo, xui, xgi, xmt, xat, xda⟩, xnum, xkp, xmk, xct⟩, rfl, hx⟩ := Act.open_act k1 h1;exact fails_any l A c xdk xpa xtp xkd xmo xui xgi xmt xat xda xnum xkp xmk xct W hg hl hf hx
end Go.Proofs.YtibmfjacfbpfgaaGreatDoor.DiskFails
