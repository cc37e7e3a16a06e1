/- DiskLasts, walked. -/
import Derived.Test.YtibmfjacfbpfgaaGreatDoorPairG
import Derived.Test.YtibmfjacfbpfgaaGreatDoorLastLaw
import Derived.Test.YtibmfjacfbpfgaaGreatDoorTreeRef
import Derived.Test.YtibmfjacfbpfgaaGreatDoorTreeRef2
set_option linter.unusedVariables false
set_option linter.unusedSimpArgs false
namespace Go.Proofs.YtibmfjacfbpfgaaGreatDoor.DiskLasts
open Go.RowKit YtibmfjacfbpfgaaGreatDoorW PrintWords PrintLast PrintMore NameLaw NameCmp NameWalk NameRef NameUse YtibmfjacfbpfgaaGreatDoor.Item Own NodeRes TreeLaw SortIns SortSwap FillLaw DiffLaw RealLaw DoneLaw KeepLaw RealKeep OpLaw OpKeep DkLaw DAt DSmall DState DWait RDisk ROwnA ActLaw YtibmfjacfbpfgaaGreatDoor.Act DMake DWrite DRemove DRename DMeta DSync DFlush DCrash RDo RCrash Pair LawDo Light DStat DList Awake15 LastLaw TreeRef TreeRef2 DLay
def FitLim (d : Dk) : Prop := FitN 1000 d ∧ d.limit = 1048576
theorem off_next {W W1 : World} {S T : Nat → Prop} {v : Value} (h : ∀ k, v.ownBlock = some k → ¬ S k) (hl : ∀ k, v.ownBlock = some k → k < W.heap.size) (hs : Still W W1 S T) : ∀ k, v.ownBlock = some k → ¬ T k := fun k e o => (hs.own k o).elim (h k e) (fun g => by have := hl k e; omega)
theorem empty_is : (⟨#[]⟩ : ByteArray).toList.isEmpty = true := by rw [Lib.toList_data]; rfl
theorem light_few {l : List Ax} {most : Int} (h : ∀ y ∈ l, OkX l.length most y) (h0 : 0 ≤ most) : (l.length : Int) ≤ most := by
 cases l with
 | nil => exact h0
 | cons y t => exact (h y (by simp)).1
set_option maxHeartbeats 32000000 in
set_option maxRecDepth 100000 in
theorem lasts_run (l : List Ax) (A : Option Addr) (c : Nat) (path data : ByteArray) (kp mk ct : Int) (W : World) (hg : Glob W) (hl : AxC W A l) (hfit : ∀ y ∈ l, FitX y) (hmk0 : 0 ≤ mk) (hmk : mk < 2 ^ 64) :
  Calls Tryz.prog 3 #[.slice A l.length c, .string path, .string data, .agg #[.int .i64 kp, .int .u64 mk, .int .i64 ct]] W fun e w' => e = .returned (.bool true) ∧ Below W.heap.size W w' := by
 have HL := Hi hl;have HFT := Hi hfit;have HMK := Hi (And.intro hmk0 hmk);have l1 := hl.2.1;have hb1 := below_one W (.cells #[.int .i64 kp, .int .u64 mk, .int .i64 ct] 25);have HB1 := Hi hb1;have HG1 := Hi (hg.below hb1);have HX1 := Hi (heap_new W (.cells #[.int .i64 kp, .int .u64 mk, .int .i64 ct] 25));clear hb1 hl hfit hmk0 hmk;go_enter Tryz.func3, Tryz.ntmps3;have HAW := Hi (awake_any (W.alloc (.cells #[.int .i64 kp, .int .u64 mk, .int .i64 ct] 25)) HG1.out)
 go_wp2_with fail
 refine HAW.out.mono ?_;rintro e w2 ⟨rfl, hb2⟩;have HB2 := Hi (below_next HB1.out hb2);have HX2 := Hi (Own.kp hb2 HX1.out);have HG2 := Hi (HG1.out.below hb2);clear hb2 HAW HX1 HG1 HB1;have HLI := Hi (light_any l A c 20 w2 (Kd.C_below HL.out HB2.out))
 go_wp2_with fail
 refine HLI.out.mono ?_;rintro e w5 ⟨r1, rfl, hr1, hb3⟩;have HB5 := Hi (below_next HB2.out hb3);have HX5 := Hi (Own.kp hb3 HX2.out);have HG5 := Hi (HG2.out.below hb3);clear hb3 HLI HX2 HG2 HB2
 cases r1 with
 | false =>
  go_wp2;go_ret;exact ⟨rfl, HB5.out⟩
 | true =>
 have HR1 := Hi (hr1 rfl);clear hr1;have hll := light_few HR1.out (by decide)
 by_cases q1 : 1000 < path.size
 ·
  have q1' : (1000 : Int) < (path.size : Int) := by omega
  go_wp2;go_ret;exact ⟨rfl, HB5.out⟩
 have q1' : ¬ (1000 : Int) < (path.size : Int) := by omega
 by_cases q2 : 1000 < data.size
 ·
  have q2' : (1000 : Int) < (data.size : Int) := by omega
  go_wp2;go_ret;exact ⟨rfl, HB5.out⟩
 have q2' : ¬ (1000 : Int) < (data.size : Int) := by omega
 have HNW := Hi (new_any 1048576 w5)
 go_wp2_with fail
 refine HNW.out.mono ?_;rintro e w6 ⟨rfl, hd6, hb6⟩;have HD6 := Hi hd6;have HB6 := Hi hb6;clear hd6 hb6 HNW;have HRN := Hi (rnew_any 1048576 w6)
 go_wp2_with fail
 refine HRN.out.mono ?_;rintro e w7 ⟨rfl, hd7, hb7⟩;have HP7 := Hi (pair_new HG5.out 1048576 HD6.out HB6.out hd7 hb7);have HXL := Hi (Own.lo HX5.out);have HLB := Hi HB5.out;have HFL : Hid (FitLim (⟨[], [], 1048576, -1, 0, false, 0⟩ : Dk)) := Hi ⟨fit_nil 1000 1048576, rfl⟩;clear hd7 hb7 HRN HD6 HB6 HB5;go_wp2
 go_loopw [38] (fun i wr => ∃ (k : Nat) (vl vs vq vb vw : Value) (d q : Dk), k ≤ l.length ∧ i = .int .i64 k ∧ Hid (Pair w5 wr w5.heap.size vl vs vq d w6.heap.size vb vw q k) ∧ Hid (FitLim d)) (fun i _ => l.length - (intOf i).toNat)
 case atStart => exact ⟨0, _, _, _, _, _, _, _, Nat.zero_le _, rfl, HP7, HFL⟩
 clear HP7 HFL;obtain ⟨k, vl, vs, vq, vb, vw, d, q, hk, rfl, HP, HFL⟩ := hrel
 by_cases hlt : k < l.length
 ·
  have hltI : (k : Int) < (l.length : Int) := by omega
  have HBW := Hi (pair_low HLB.out HP.out);obtain ⟨ad, hA, hget⟩ := ax_at (Kd.C_below HL.out HBW.out) hlt;subst hA;have hfx := HFT.out _ (List.getElem_mem hlt);have hok := HR1.out _ (List.getElem_mem hlt);generalize l[k] = x at hget hfx hok;obtain ⟨dk, pa, tp, ⟨kd, mo, ui, gi, mt, at_, da⟩, num, kp, mk, ct⟩ := x;obtain ⟨_, hpz, htz, hdz⟩ := hok;have hpz : pa.size ≤ 1000 := hpz;have htz : tp.size ≤ 1000 := htz;have hdz : da.size ≤ 1000 := hdz;have e0 : wr.cell? (ad.add (k * 14)) = some (.int .i64 dk) := hget 0 _ rfl;have e1 : wr.cell? ⟨(ad.add (k * 14)).block, (ad.add (k * 14)).off + 1, none⟩ = some (.string pa) := hget 1 _ rfl;have e2 : wr.cell? ⟨(ad.add (k * 14)).block, (ad.add (k * 14)).off + 2, none⟩ = some (.string tp) := hget 2 _ rfl;have e3 : wr.cell? ⟨(ad.add (k * 14)).block, (ad.add (k * 14)).off + 3, none⟩ = some (.int .i64 kd) := hget 3 _ rfl;have e4 : wr.cell? ⟨(ad.add (k * 14)).block, (ad.add (k * 14)).off + 4, none⟩ = some (.int .u32 mo) := hget 4 _ rfl;have e5 : wr.cell? ⟨(ad.add (k * 14)).block, (ad.add (k * 14)).off + 5, none⟩ = some (.int .u32 ui) := hget 5 _ rfl;have e6 : wr.cell? ⟨(ad.add (k * 14)).block, (ad.add (k * 14)).off + 6, none⟩ = some (.int .u32 gi) := hget 6 _ rfl;have e7 : wr.cell? ⟨(ad.add (k * 14)).block, (ad.add (k * 14)).off + 7, none⟩ = some (.int .i64 mt) := hget 7 _ rfl;have e8 : wr.cell? ⟨(ad.add (k * 14)).block, (ad.add (k * 14)).off + 8, none⟩ = some (.int .i64 at_) := hget 8 _ rfl;have e9 : wr.cell? ⟨(ad.add (k * 14)).block, (ad.add (k * 14)).off + 9, none⟩ = some (.string da) := hget 9 _ rfl;have e10 : wr.cell? ⟨(ad.add (k * 14)).block, (ad.add (k * 14)).off + 10, none⟩ = some (.int .i64 num) := hget 10 _ rfl;have e11 : wr.cell? ⟨(ad.add (k * 14)).block, (ad.add (k * 14)).off + 11, none⟩ = some (.int .i64 kp) := hget 11 _ rfl;have e12 : wr.cell? ⟨(ad.add (k * 14)).block, (ad.add (k * 14)).off + 12, none⟩ = some (.int .u64 mk) := hget 12 _ rfl;have e13 : wr.cell? ⟨(ad.add (k * 14)).block, (ad.add (k * 14)).off + 13, none⟩ = some (.int .i64 ct) := hget 13 _ rfl;clear hget;have HDO := Hi (do_any w5 (wr.alloc (.cells #[.int .i64 dk, .string pa, .string tp, .int .i64 kd, .int .u32 mo, .int .u32 ui, .int .u32 gi, .int .i64 mt, .int .i64 at_, .string da, .int .i64 num, .int .i64 kp, .int .u64 mk, .int .i64 ct] 36)) w5.heap.size vl vs vq d w6.heap.size vb vw q k (HP.out.below (below_one wr (.cells #[.int .i64 dk, .string pa, .string tp, .int .i64 kd, .int .u32 mo, .int .u32 ui, .int .u32 gi, .int .i64 mt, .int .i64 at_, .string da, .int .i64 num, .int .i64 kp, .int .u64 mk, .int .i64 ct] 36))) (by omega) dk pa tp kd mo ui gi mt at_ da num kp mk ct hfx hpz htz hdz);clear hfx HBW
  go_wp2_with fail
  refine HDO.out.mono ?_;rintro e w9 ⟨rfl, vl1, vs1, vq1, vb1, vw1, hp9, hs9⟩;have HP9 := Hi hp9;have HFLN := Hi (show FitLim (actD nzP d (dk, pa, tp, (kd, mo, ui, gi, mt, at_, da), num, kp, mk, ct)) from ⟨fit_next HFL.out.1 (x := (dk, pa, tp, (kd, mo, ui, gi, mt, at_, da), num, kp, mk, ct)) hdz, (act_limit nzP d (dk, pa, tp, (kd, mo, ui, gi, mt, at_, da), num, kp, mk, ct)).trans HFL.out.2⟩);clear hp9 hs9 HDO HP;go_wp2;go_roundw
  case rel => exact ⟨k + 1, vl1, vs1, vq1, vb1, vw1, _, _, by omega, by go_num, HP9, HFLN⟩
  case measure => simp [intOf]; omega
 have hj2 : ¬ (k : Int) < (l.length : Int) := by omega
 have hsl := HP.out.prog.bnd.shows.1;have hbl := HP.out.prog.bnd.len;have HFC : Hid (FitN 1000 (crashD d 1073741824 0 0)) := Hi ⟨crash_go_fit _ _ _ _ _ HFL.out.1.1 (fun c hc => HFL.out.1.2 c (List.mem_of_mem_take hc)), fun c hc => by cases hc⟩;have HLM := Hi HFL.out.2;have HC1 := Hi (crash_any w5 wr w5.heap.size vl vs vq d k HP.out.prog (by omega) 1073741824 0 0 (by decide) (by decide))
 go_wp2_with fail
 refine HC1.out.mono ?_;rintro e w10 ⟨rfl, va1, va2, va3, hd, hs⟩;have HQ : Hid (Prog w5 w10 w5.heap.size va1 va2 va3 (crashD d 1073741824 0 0) k) := Hi ⟨HP.out.prog.glob, Still.low hs HP.out.prog.low (Nat.le_refl _) (owns_base HP.out.prog.at_), hd, crash_trees HP.out.prog.trees 1073741824 0 0, crash_bnd HP.out.prog.bnd 1073741824 0 0⟩;clear hd hs HC1 HP HFL;have hfc := flush_calm d ⟨#[]⟩ ⟨#[]⟩ (0, 0, 0, 0, 0, 0, ⟨#[]⟩) 1073741824 0 0;rw [HLM.out] at hfc;have hft := HFC.out.shows;obtain ⟨s, hs0⟩ : ∃ s, s = (crashD d 1073741824 0 0).shows := ⟨_, rfl⟩;obtain ⟨st, hst0⟩ : ∃ st, st = d.steps + 1 := ⟨_, rfl⟩;rw [← hs0, ← hst0] at hfc;rw [← hs0] at hft;have HFT2 := Hi hft;have HC2 := flush_any w5 w10 w5.heap.size va1 va2 va3 (crashD d 1073741824 0 0) k HQ.out (by omega) ⟨#[]⟩ ⟨#[]⟩ (0, 0, 0, 0, 0, 0, ⟨#[]⟩);rw [hfc] at HC2;have HFE := Hi hfc;have HC2 := Hi HC2;clear hfc hft hs0 hst0
 go_wp2_with fail
 refine HC2.out.mono ?_;rintro e w11 ⟨rfl, vb1, vb2, vb3, hd, hs⟩;have HQ : Hid (Prog w5 w11 w5.heap.size vb1 vb2 vb3 (calmD s [] 1048576 st) (k + 1)) := Hi (by have h := prog_next HQ.out (k := 6) (path := ⟨#[]⟩) (tp := ⟨#[]⟩) (n := (0, 0, 0, 0, 0, 0, ⟨#[]⟩)) (by decide) (by rw [HFE.out]; exact hd) hs; rw [HFE.out] at h; exact h);have hsl2 : s.length ≤ k + 1 := HQ.out.bnd.shows.1;have HT := Hi (show RightP s from Trees.base HQ.out.trees);clear hd hs HC2 HFE HFC HLM;have HA1 := Hi (all_any w5.heap.size _ vb1 vb2 vb3 (calmD s [] 1048576 st) w11 HQ.out.at_ (by show s.length ≤ 1000000; omega))
 go_wp2_with fail
 refine HA1.out.mono ?_;rintro e w12 ⟨v9, rfl, hr9, hb⟩;have hr9 : itemK.R 77 w12 w11.heap.size (fun _ => True) v9 s := hr9;obtain ⟨A9, c9, hv9, _, _⟩ := Kd.R_reads hr9;subst hv9;have HU9 : Hid (∀ z, (Value.slice A9 s.length c9).ownBlock = some z → ¬ Owns w5.heap.size vb1 vb2 vb3 z) := Hi (fun z e o => by have := Kd.R_base hr9 z e; have := owns_lt HQ.out.at_ z o; omega);have HR9 := Hi hr9;have HQ := Hi (HQ.out.below hb);clear hr9 hb HA1;have HA2 : Hid (Calls Tryz.prog 16 #[.pointer (some ⟨w5.heap.size, 0, none⟩), .string path] w12 fun e w' => e = .returned (.tuple #[.string (realP s path).1, .int .i64 (realP s path).2]) ∧ Below w12.heap.size w12 w') := Hi (HQ.out.real (by omega) path (by omega));obtain ⟨rr, hrr⟩ : ∃ rr, rr = realP s path := ⟨_, rfl⟩;rw [← hrr] at HA2;have HRR := Hi hrr;clear hrr;obtain ⟨r, er⟩ := rr
 go_wp2_with fail
 refine HA2.out.mono ?_;rintro e w13 ⟨rfl, hb⟩;have HR9 := Hi (Kd.R_below HR9.out hb);have HQ := Hi (HQ.out.below hb);clear hb HA2;have HC3 := make_any w5 w13 w5.heap.size vb1 vb2 vb3 (calmD s [] 1048576 st) (k + 1) HQ.out (by omega) path (by omega) 2 0 0 0 0 0 ⟨#[]⟩ (by decide);have HER := Hi (fun h => op_err (nz := nzP) (d := calmD s [] 1048576 st) (k := 0) (path := path) (tp := ⟨#[]⟩) (n := (2, 0, 0, 0, 0, 0, ⟨#[]⟩)) h);have HMO := Hi (fun h => make_ok (s := s) (lim := 1048576) (st := st) (path := path) (tp := ⟨#[]⟩) h);have HPN := Hi (fun w' x1 x2 x3 hd hs => prog_next (w' := w') (vl1 := x1) (vs1 := x2) (vq1 := x3) HQ.out (k := 0) (path := path) (tp := ⟨#[]⟩) (n := (2, 0, 0, 0, 0, 0, ⟨#[]⟩)) (by decide) hd hs);unfold file0 at HMO;generalize opD nzP (calmD s [] 1048576 st) 0 path ⟨#[]⟩ (2, 0, 0, 0, 0, 0, ⟨#[]⟩) = X at *;have HC3 := Hi HC3
 go_wp2_with fail
 refine HC3.out.mono ?_;rintro e w14 ⟨rfl, vc1, vc2, vc3, hd, hs⟩;have HQ := Hi (HPN.out w14 vc1 vc2 vc3 hd hs);have HU := Hi (off_next HU9.out (Kd.R_lt HR9.out) hs);have HR9 := Hi (R_stillS rfl HR9.out hs HU9.out);have HU9 := HU;clear hd hs HC3 HPN;obtain ⟨mr, D⟩ := X
 by_cases h0 : mr = 0
 ·
  subst h0;obtain ⟨g1, g2, g3⟩ := HMO.out rfl;rw [← HRR.out] at g1 g2 g3;have g1 : er = 0 := g1;subst g1;have g3 : D = calmD s [(0, r, ⟨#[]⟩, file0, false)] 1048576 (st + 1) := g3;subst g3;have HK := Hi (show kindOf s r = 0 from g2);have HRL := Hi HRR.out.symm;have hck := (real_ok HT.out HRL.out).2.2.1;have HN := Hi (check_ne hck);clear g2 hck HMO HER HRR
  have HRM := Hi (show ((data.size : Int) + sumO (putP s (r, file0)) r ≤ 1048576) from by
   have hh := sum_fit (n := 1000) (s := putP s (r, file0)) (put_fit HFT2.out (by show (0 : Nat) ≤ 1000; omega)) r;have hl := DkLaw.put_len s (r, file0)
   omega)
  have hwr := LastLaw.write_ok (lim := 1048576) (st := st + 1) HRL.out HN.out HK.out ⟨#[]⟩ (0, 0, 0, 0, 0, 0, data) HRM.out;have HWR := Hi hwr;have HC4 := write_any w5 w14 w5.heap.size vc1 vc2 vc3 _ (k + 1 + 1) HQ.out (by omega) path (by omega) data (by omega);rw [hwr] at HC4;have HC4 := Hi HC4;clear hwr HRM
  go_wp2_with fail
  refine HC4.out.mono ?_;rintro e w15 ⟨rfl, vd1, vd2, vd3, hd, hs⟩;have HQ5 := Hi (by have h := prog_next HQ.out (k := 1) (path := path) (tp := ⟨#[]⟩) (n := (0, 0, 0, 0, 0, 0, data)) (by show data.size ≤ 100000; omega) (by rw [HWR.out]; exact hd) hs; rw [HWR.out] at h; exact h);have HU := Hi (off_next HU9.out (Kd.R_lt HR9.out) hs);have HR9 := Hi (R_stillS rfl HR9.out hs HU9.out);have HU9 := HU;clear hd hs HC4 HQ HU HWR;have hsy := LastLaw.sync_ok (data := data) (lim := 1048576) (st := st + 1 + 1) HRL.out HN.out HK.out ⟨#[]⟩ (0, 0, 0, 0, 0, 0, ⟨#[]⟩);have HSY := Hi hsy;have HC5 := sync_any w5 w15 w5.heap.size vd1 vd2 vd3 _ (k + 1 + 1 + 1) HQ5.out (by omega) path (by omega) (0, 0, 0, 0, 0, 0, ⟨#[]⟩);rw [hsy] at HC5;have HC5 := Hi HC5;clear hsy
  go_wp2_with fail
  refine HC5.out.mono ?_;rintro e w16 ⟨rfl, ve1, ve2, ve3, hd, hs⟩;have HQ6 := Hi (by have h := prog_next HQ5.out (k := 5) (path := path) (tp := ⟨#[]⟩) (n := (0, 0, 0, 0, 0, 0, ⟨#[]⟩)) (by decide) (by rw [HSY.out]; exact hd) hs; rw [HSY.out] at h; exact h);have HU := Hi (off_next HU9.out (Kd.R_lt HR9.out) hs);have HR9 := Hi (R_stillS rfl HR9.out hs HU9.out);have HU9 := HU;clear hd hs HC5 HQ5 HU HSY;have HX := Hi ((HQ6.out.low.block _ HXL.out).trans HX5.out);have u0 : w16.cell? ⟨W.heap.size, 0, none⟩ = some (.int .i64 kp) := by rw [cell_of HX.out]; rfl
  have u1 : w16.cell? ⟨W.heap.size, 1, none⟩ = some (.int .u64 mk) := by rw [cell_of HX.out]; rfl
  have u2 : w16.cell? ⟨W.heap.size, 2, none⟩ = some (.int .i64 ct) := by rw [cell_of HX.out]; rfl
  have HC6 := Hi (crash_any w5 w16 w5.heap.size ve1 ve2 ve3 _ (k + 1 + 1 + 1 + 1) HQ6.out (by omega) kp mk ct HMK.out.1 HMK.out.2);have HLW := Hi (lasts_law (data := data) HT.out HN.out HK.out 1048576 (st + 1 + 1 + 1) kp mk ct)
  go_wp2_with fail
  refine HC6.out.mono ?_;rintro e w17 ⟨rfl, vf1, vf2, vf3, hd, hs⟩;have HQ7 := Hi (show Prog w5 w17 w5.heap.size vf1 vf2 vf3 _ (k + 1 + 1 + 1 + 1) from ⟨HQ6.out.glob, Still.low hs HQ6.out.low (Nat.le_refl _) (owns_base HQ6.out.at_), hd, crash_trees HQ6.out.trees kp mk ct, crash_bnd HQ6.out.bnd kp mk ct⟩);have HR9 := Hi (R_stillS rfl HR9.out hs HU9.out);clear hd hs HC6 HQ6 HX u0 u1 u2 HU9;generalize crashD (calmD s [(0, r, ⟨#[]⟩, file0, true), (1, r, ⟨#[]⟩, (0, 0, 0, 0, 0, 0, data), true)] 1048576 (st + 1 + 1 + 1)) kp mk ct = D7 at HQ7 HLW;have hsl7 := HQ7.out.bnd.shows.1;have HA7 := Hi (all_any w5.heap.size _ vf1 vf2 vf3 D7 w17 HQ7.out.at_ (by omega));generalize D7.shows = S7 at HA7 HLW hsl7
  go_wp2_with fail
  refine HA7.out.mono ?_;rintro e w18 ⟨v7, rfl, hr7, hb⟩;obtain ⟨A7, c7, hv7, _, hC7⟩ := Kd.R_reads hr7;subst hv7;have HC7 := Hi hC7;have HC9 := Hi (Kd.C_below (Kd.R_reads' HR9.out).2.2 hb);have HL7 := Hi (below_next HQ7.out.low hb);have HB7 := Hi (HLB.out.trans (HL7.out.mono HLB.out.size));have HX := Hi ((HL7.out.block _ HXL.out).trans HX5.out);have u0 : w18.cell? ⟨W.heap.size, 0, none⟩ = some (.int .i64 kp) := by rw [cell_of HX.out]; rfl
  clear hr7 hC7 hb HA7 HR9 HQ7
  by_cases hk0 : kp ≤ 0
  ·
   have he := HLW.out.1 hk0;subst he;have HM := Hi (same_any S7 S7 A7 c7 A9 c9 w18 HC7.out HC9.out);rw [decide_eq_true (rfl : S7 = S7)] at HM
   go_wp2_with fail
   refine HM.out.mono ?_;rintro e w19 ⟨rfl, hb⟩;have HF := Hi (below_next HB7.out hb);clear hb HM;go_wp2;go_ret;exact ⟨rfl, HF.out⟩
  obtain ⟨hf, hw⟩ := HLW.out.2 (by omega);have HW := Hi hw;have HFI := rfind_any S7 A7 c7 r w18 HC7.out;rw [hf] at HFI;have HFI := Hi (show Calls Tryz.prog 21 #[.slice A7 S7.length c7, .string r] w18 fun e w' => e = .returned (.tuple #[.agg #[.int .i64 2, .int .u32 0, .int .u32 0, .int .u32 0, .int .i64 0, .int .i64 0, .string (if kp = 1 then ⟨#[]⟩ else data)], .bool true]) ∧ Below w18.heap.size w18 w' from HFI);clear hf hw HLW
  have hkk : (kp = 1 ∧ (if kp = 1 then (⟨#[]⟩ : ByteArray) else data) = ⟨#[]⟩) ∨ ((kp == 1) = false ∧ 1 < kp ∧ (if kp = 1 then (⟨#[]⟩ : ByteArray) else data) = data) := by
   by_cases e : kp = 1
   ·
    exact .inl ⟨e, if_pos e⟩
   exact .inr ⟨beq_eq_false_iff_ne.2 e, by omega, if_neg e⟩
  have HKK := Hi hkk;clear hkk;generalize (if kp = 1 then (⟨#[]⟩ : ByteArray) else data) = dx at HFI HKK
  go_wp2_with fail
  refine HFI.out.mono ?_;rintro e w19 ⟨rfl, hb⟩;have HB19 := Hi (below_next HB7.out hb);have HC7 := Hi (Kd.C_below HC7.out hb);have HC9 := Hi (Kd.C_below HC9.out hb);have HX := Hi (Own.kp hb HX.out);clear hb HFI u0;have hb1 := below_one w19 (.cells #[.int .i64 2, .int .u32 0, .int .u32 0, .int .u32 0, .int .i64 0, .int .i64 0, .string dx] 34);have HB20 := Hi (below_next HB19.out hb1);have HC7 := Hi (Kd.C_below HC7.out hb1);have HC9 := Hi (Kd.C_below HC9.out hb1);have HX := Hi (Own.kp hb1 HX.out);have u0 : (w19.alloc (.cells #[.int .i64 2, .int .u32 0, .int .u32 0, .int .u32 0, .int .i64 0, .int .i64 0, .string dx] 34)).cell? ⟨W.heap.size, 0, none⟩ = some (.int .i64 kp) := by rw [cell_of HX.out]; rfl
  clear hb1;have HWO := without_any S7 A7 c7 r _ HC7.out (by omega);rw [HW.out] at HWO;have HWO := Hi HWO;have hem := empty_is;have hdd : (data.toList == data.toList) = true := by simp
  rcases HKK.out with ⟨rfl, rfl⟩ | ⟨v1, v2, rfl⟩ <;> (
   go_wp2_with fail
   refine HWO.out.mono ?_;rintro e w21 ⟨v8, rfl, hr8, hb⟩;obtain ⟨A8, c8, hv8, _, hC8⟩ := Kd.R_reads hr8;subst hv8;have HB21 := Hi (below_next HB20.out hb);have HM := Hi (same_any s s A8 c8 A9 c9 w21 hC8 (Kd.C_below HC9.out hb));rw [decide_eq_true (rfl : s = s)] at HM;clear hr8 hC8 hb HWO
   go_wp2_with fail
   refine HM.out.mono ?_;rintro e w22 ⟨rfl, hb⟩;have HF := Hi (below_next HB21.out hb);clear hb HM;go_wp2;go_ret
   exact ⟨rfl, HF.out⟩)
 have q0 : (mr == 0) = false := beq_eq_false_iff_ne.2 h0;have q3 : (mr != 0) = true := bne_iff_ne.2 h0;obtain ⟨er1, er2, er3⟩ := HER.out h0;have er4 : D.shows = s := shows_of (d := calmD s [] 1048576 st) er1 er2;have HE4 := Hi er4;have hbn : D.shows.length ≤ k + 1 + 1 := HQ.out.bnd.shows.1;clear er1 er2 er3 er4 HMO HER;have HLL := Hi (HLB.out.trans (HQ.out.low.mono HLB.out.size))
 by_cases he : er = 0
 ·
  subst he;have HS1 := Hi (all_any w5.heap.size _ vc1 vc2 vc3 D w14 HQ.out.at_ (by omega));rw [HE4.out] at HS1;have HC9 := Hi (Kd.R_reads' HR9.out).2.2
  go_wp2_with fail
  refine HS1.out.mono ?_;rintro e w15 ⟨v1, rfl, hr, hb⟩;obtain ⟨A1, c1, hv1, _, hC1⟩ := Kd.R_reads hr;subst hv1;have HB := Hi (below_next HLL.out hb);have HM1 := Hi (same_any s s A1 c1 A9 c9 w15 hC1 (Kd.C_below HC9.out hb));rw [decide_eq_true (rfl : s = s)] at HM1;clear hb hr hC1 HS1
  go_wp2_with fail
  refine HM1.out.mono ?_;rintro e w16 ⟨rfl, hb⟩;have HF := Hi (below_next HB.out hb);clear hb HM1;go_wp2;go_ret;exact ⟨rfl, HF.out⟩
 have q4 : (er != 0) = true := bne_iff_ne.2 he;go_wp2;go_ret;exact ⟨rfl, HLL.out⟩
set_option maxRecDepth 100000 in
theorem walk (v0 : Value) (a1 a2 : ByteArray) (v3 : Value) (W : World) {H : Type} {enc : TypeId × Value → H} {b0 b3 : Nat} {d0 d3 : DataW H} {p0 p3 : List MemPlace}
  (k0 : Value.okWide Tryz.prog W .any b0 22 v0) (h0 : DataW.Trod enc Tryz.prog W 0 (fun _ => true) true 22 v0 d0 p0) (w1 : a1.size ≤ 140737488351232) (w2 : a2.size ≤ 140737488351232)
  (k3 : Value.okWide Tryz.prog W .any b3 25 v3) (h3 : DataW.Trod enc Tryz.prog W 0 (fun _ => true) true 25 v3 d3 p3) (hg : Glob W) :
  Calls Tryz.prog 3 #[v0, .string a1, .string a2, v3] W fun e w' => e = .returned (.bool true) ∧ Below W.heap.size W w' := by
 obtain ⟨A, c, l, rfl, hl, hf⟩ := Act.open_axs k0 h0;obtain ⟨kp, mk, ct, rfl, hx1, hx2⟩ := Act.open_crash k3 h3;exact lasts_run l A c a1 a2 kp mk ct W hg hl hf hx1 hx2
end Go.Proofs.YtibmfjacfbpfgaaGreatDoor.DiskLasts
