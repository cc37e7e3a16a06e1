/- a crash, as the document does it: its laws. -/
import Derived.Test.YtibmfjacfbpfgaaGreatDoorRefD
set_option linter.unusedVariables false
set_option linter.unusedSimpArgs false
namespace Go.Proofs.YtibmfjacfbpfgaaGreatDoor.RCrashL
open Go.RowKit YtibmfjacfbpfgaaGreatDoorW PrintWords PrintLast PrintMore NameLaw NameWalk NameRef NameUse YtibmfjacfbpfgaaGreatDoor.Item Own NodeRes TreeLaw TreeRef SortIns SortSwap FillLaw DiffLaw RealLaw RealKeep KeepLaw OpLaw OpKeep DkLaw DSmall DSync RLead RReal RDone RDisk ROwnA
def KindC (k : Int) : Prop := k = 0 ∨ k = 1 ∨ k = 2 ∨ k = 3 ∨ k = 4
def PathsP (s : List It) : Prop := ∀ x ∈ s, x.1.size ≤ 9000
theorem put_paths {s : List It} {x : It} (h : PathsP s) (hx : x.1.size ≤ 9000) : PathsP (putP s x) := fun y hy => by
 rcases put_mem hy with e | ⟨e, _⟩
 ·
  rw [e]; exact hx
 exact h y e
theorem wo_paths {s : List It} (h : PathsP s) (p : ByteArray) : PathsP (woP s p) := fun y hy => h y (List.mem_filter.1 hy).1
theorem done_paths {s : List It} {c : Chg} (h : PathsP s) (hc : LightC c) : PathsP (doneP s c) := by
 unfold doneP
 split
 ·
  exact put_paths h hc.path
 split
 ·
  exact h
 rename_i x hf;have hx := h x (find_mem hf).1
 split
 ·
  exact put_paths h hx
 split
 ·
  exact wo_paths h _
 split
 ·
  exact put_paths (wo_paths h _) hc.dest
 exact put_paths h hx
def RowK (W wr : World) (n : Nat) (vb v : Value) (s : List It) : Prop := itemK.R 77 wr n (fun _ => True) v s ∧ (v = vb ∨ itemK.R 77 wr W.heap.size (fun _ => True) v s)
theorem RowK.below {W w w1 : World} {n : Nat} {vb v : Value} {s : List It} (h : RowK W w n vb v s) (hb : Below w.heap.size w w1) : RowK W w1 n vb v s := ⟨Kd.R_below h.1 hb, h.2.imp id (fun r => Kd.R_below r hb)⟩
theorem RowK.next {W w w1 : World} {n : Nat} {vb v1 : Value} {A : Option Addr} {c : Nat} {s s1 : List It} (h : RowK W w n vb (.slice A s.length c) s) (hb : Below w.heap.size w w1) (hn : n ≤ w.heap.size) (hw : W.heap.size ≤ w.heap.size) (hr : v1 = .slice A s.length c ∧ s1 = s ∨ itemK.R 77 w1 w.heap.size (fun _ => True) v1 s1) : RowK W w1 n vb v1 s1 := by
 rcases hr with ⟨rfl, rfl⟩ | hr
 ·
  exact h.below hb
 exact ⟨Kd.R_lower hr hn, .inr (Kd.R_lower hr hw)⟩
theorem RowK.own {W w : World} {n : Nat} {vb v : Value} {s : List It} (h : RowK W w n vb v s) : ∀ k, v.ownBlock = some k → vb.ownBlock = some k ∨ W.heap.size ≤ k := fun k hk => by
 rcases h.2 with e | r
 ·
  exact .inl (e ▸ hk)
 exact .inr (Kd.R_base r k hk)
theorem crash_cons (mk ct : Int) (b : Nat) (c : Chg) (l : List Chg) (s : List It) : crashGo mk ct b (c :: l) s = if mayCut c = true then crashGo mk ct (b + 1) l (doneP s (if b < 64 ∧ mk / 2 ^ b % 2 = 1 then cutC ct c else c)) else crashGo mk ct b l (doneP s c) := rfl
theorem crash_keep {mk ct : Int} {b : Nat} {c : Chg} {l : List Chg} {s R : List It} (h : crashGo mk ct b (c :: l) s = R) (hm : mayCut c = false) : crashGo mk ct b l (doneP s c) = R := by rw [crash_cons, hm, if_neg Bool.false_ne_true] at h; exact h
theorem crash_full {mk ct : Int} {b : Nat} {c : Chg} {l : List Chg} {s R : List It} (h : crashGo mk ct b (c :: l) s = R) (hm : mayCut c = true) (hb : ¬ mk / 2 ^ b % 2 = 1) : crashGo mk ct (b + 1) l (doneP s c) = R := by rw [crash_cons, hm, if_pos rfl, if_neg (fun e => hb e.2)] at h; exact h
theorem crash_torn {mk ct : Int} {b : Nat} {c : Chg} {l : List Chg} {s R : List It} (h : crashGo mk ct b (c :: l) s = R) (hm : mayCut c = true) (h0 : 0 ≤ mk) (h64 : mk < 2 ^ 64) (hb : mk / 2 ^ b % 2 = 1) : crashGo mk ct (b + 1) l (doneP s (cutC ct c)) = R := by
 have hb64 : b < 64 := by
  rcases Nat.lt_or_ge b 64 with e | e
  ·
   exact e
  exfalso;have h1 : (2 : Int) ^ 64 ≤ 2 ^ b := by exact_mod_cast Nat.pow_le_pow_right (by decide) e
  rw [Int.ediv_eq_zero_of_lt h0 (by omega)] at hb;cases hb
 rw [crash_cons, hm, if_pos rfl, if_pos ⟨hb64, hb⟩] at h;exact h
theorem cut_whole {ct : Int} {c : Chg} (h : (dataC c).size ≤ (max ct 0).toNat) : cutC ct c = c := by
 obtain ⟨a1, a2, a3, ⟨a4, a5, a6, a7, a8, a9, a10⟩, a11⟩ := c;have h : a10.size ≤ (max ct 0).toNat := h
 have e : cutB ct a10 = a10 := by
  unfold cutB;rw [show (min (max ct 0) (a10.size : Int)).toNat = a10.size by omega];exact ByteArray.extract_zero_size
 show (a1, a2, a3, (a4, a5, a6, a7, a8, a9, cutB ct a10), a11) = _
 rw [e]
theorem bit_mod {mk : Int} (h0 : 0 ≤ mk) (j : Nat) : (mk / 2 ^ j).tmod 2 = mk / 2 ^ j % 2 := Int.tmod_eq_emod_of_nonneg (Int.ediv_nonneg h0 (Int.le_of_lt (Int.pow_pos (by decide))))
theorem half_next (mk : Int) (j : Nat) : mk / 2 ^ j / 2 = mk / 2 ^ (j + 1) := by rw [Int.pow_succ, Int.ediv_ediv_of_nonneg (Int.le_of_lt (Int.pow_pos (by decide)))]
theorem half_u64 {mk : Int} (h0 : 0 ≤ mk) (h64 : mk < 2 ^ 64) (j : Nat) : IntKind.u64.wrap ((mk / 2 ^ j).tdiv 2) = mk / 2 ^ (j + 1) := by
 have hp : (0 : Int) < 2 ^ j := Int.pow_pos (by decide);have h1 : 0 ≤ mk / 2 ^ j := Int.ediv_nonneg h0 (Int.le_of_lt hp);have h2 : mk / 2 ^ j ≤ mk := Int.ediv_le_self _ h0;rw [Int.tdiv_eq_ediv_of_nonneg h1, ← half_next];simp only [IntKind.wrap, IntKind.bits, IntKind.signed];simp only [Bool.false_and, if_neg (Bool.false_ne_true)];omega
theorem take_at {l : List Chg} {k : Nat} {kp : Int} (hk : k < l.length) (h : (k : Int) < kp) : (l.take (max kp 0).toNat).drop k = l[k] :: (l.take (max kp 0).toNat).drop (k + 1) := by
 have h1 : k < (l.take (max kp 0).toNat).length := by rw [List.length_take]; omega
 rw [List.drop_eq_getElem_cons h1, List.getElem_take]
theorem take_end {l : List Chg} {k : Nat} {kp : Int} (h : kp ≤ (k : Int) ∨ l.length ≤ k) : (l.take (max kp 0).toNat).drop k = [] := List.drop_of_length_le (by rw [List.length_take]; omega)
theorem still_crash {W W1 : World} {b : Nat} {vb vw v1 : Value} (hb : Below W.heap.size W W1) (hn : ∀ k, v1.ownBlock = some k → vb.ownBlock = some k ∨ W.heap.size ≤ k) (a0 a1 a5 a3 a4 : Value) : Still W (((((W1.setCell ⟨b, 0, none⟩ a0).setCell ⟨b, 1, none⟩ a1).setCell ⟨b, 5, none⟩ a5).setCell ⟨b, 3, none⟩ a3).setCell ⟨b, 4, none⟩ a4) (ROwns b vb vw) (ROwns b v1 (.slice none 0 0)) := by
 have h := (Still.below hb (ROwns b vb vw)).trans ((still_rset W1 b 0 a0 vb vw).trans ((still_rset _ b 1 a1 vb vw).trans ((still_rset _ b 5 a5 vb vw).trans ((still_rset _ b 3 a3 vb vw).trans (still_rset _ b 4 a4 vb vw)))));refine ⟨h.os, h.tape, h.output, h.size, h.block, fun k hk => ?_⟩
 rcases hk with e | e | e
 ·
  exact .inl (.inl e)
 ·
  rcases hn k e with o | o
  ·
   exact .inl (.inr (.inl o))
  exact .inr o
 cases e
theorem rowk_set {W w : World} {n bx : Nat} {vb v : Value} {s : List It} {cs : Array Value} (h : RowK W w n vb v s) (hx : w.heap[bx]? = some (.cells cs 121 (0, 0))) (j : Nat) (u : Value) : RowK W (w.setCell ⟨bx, j, none⟩ u) n vb v s := ⟨Kd.R_set h.1 hx (by decide) j u, h.2.imp id (fun r => Kd.R_set r hx (by decide) j u)⟩
end Go.Proofs.YtibmfjacfbpfgaaGreatDoor.RCrashL
namespace Go.Proofs.YtibmfjacfbpfgaaGreatDoor.RCrash
open Go.RowKit YtibmfjacfbpfgaaGreatDoorW PrintWords PrintLast PrintMore NameLaw NameWalk NameRef NameUse YtibmfjacfbpfgaaGreatDoor.Item Own NodeRes TreeLaw TreeRef SortIns SortSwap FillLaw DiffLaw RealLaw RealKeep KeepLaw OpLaw OpKeep DkLaw DSmall DSync RLead RReal RDone RDisk ROwnA RCrashL
set_option maxHeartbeats 16000000 in
set_option maxRecDepth 100000 in
theorem rcrash_any (W0 W : World) (b : Nat) (vb vw : Value) (d : Dk) (m : Nat) (hD : Doc W0 W b vb vw d m) (hm : m ≤ 700000) (kp mk ct : Int) (h0 : 0 ≤ mk) (h64 : mk < 2 ^ 64) :
  Calls Tryz.prog 48 #[.pointer (some ⟨b, 0, none⟩), .agg #[.int .i64 kp, .int .u64 mk, .int .i64 ct]] W fun e w' => e = .returned (.tuple #[]) ∧ ∃ vb1 vw1, RAt w' W0.heap.size b vb1 vw1 (crashD d kp mk ct) ∧ Still W w' (ROwns b vb vw) (ROwns b vb1 vw1) := by
 obtain ⟨Aw, cw, rfl⟩ := Kd.R_slice hD.at_.rw;have HD0 := Hi hD;have hb1 := below_one W (.cells #[.int .i64 kp, .int .u64 mk, .int .i64 ct] 25);have HB1 := Hi hb1;have HK1 := Hi (heap_new W (.cells #[.int .i64 kp, .int .u64 mk, .int .i64 ct] 25));have HCw := Hi (Kd.R_reads' hD.at_.rw).2.2;have hlen := hD.bnd.len;have HD1 := Hi (doc_below hD hb1);have c0 := HD1.out.at_.c0;have c1 := HD1.out.at_.c1;obtain ⟨R, hR⟩ : ∃ R, R = crashGo mk ct 0 (d.waits.take (max kp 0).toNat) d.base := ⟨_, rfl⟩;have HR0 := Hi (show crashGo mk ct 0 ((d.waits.take (max kp 0).toNat).drop 0) d.base = R from hR.symm);have HCR := Hi hR;have HRW : Hid (RowK W (W.alloc (.cells #[.int .i64 kp, .int .u64 mk, .int .i64 ct] 25)) W0.heap.size vb vb d.base) := Hi ⟨HD1.out.at_.rb, .inl rfl⟩;have HP0 : Hid (PathsP d.base) := Hi (right_size (Trees.base hD.trees));clear hR hb1 hD;go_enter Tryz.func48, Tryz.ntmps48;go_wp2;generalize W.alloc (.cells #[.int .i64 kp, .int .u64 mk, .int .i64 ct] 25) = W1 at *;obtain ⟨bc, hbc⟩ : ∃ bc, bc = W.heap.size := ⟨_, rfl⟩;rw [← hbc] at HK1 ⊢;have HBC := Hi hbc;clear hbc c0 c1;have HW0 := Hi (Below.refl W1.heap.size W1)
 go_loopw [4, 5, 20] (fun v nn i wr => ∃ (k nb : Nat) (s : List It), k ≤ d.waits.length ∧ i = .int .i64 k ∧ nn = .int .i64 nb ∧ nb ≤ k ∧ Hid (crashGo mk ct nb ((d.waits.take (max kp 0).toNat).drop k) s = R) ∧ Hid (RowK W wr W0.heap.size vb v s) ∧ Hid (PathsP s) ∧ s.length ≤ d.base.length + k ∧ Hid (Below W1.heap.size W1 wr)) (fun v nn i _ => d.waits.length - (intOf i).toNat)
 case atStart => exact ⟨0, 0, d.base, Nat.zero_le _, rfl, rfl, Nat.le_refl _, HR0, HRW, HP0, by omega, HW0⟩
 clear HR0 HRW HP0 HW0;obtain ⟨k, nb, s, hk, rfl, rfl, hnb, HE, HR, HPA, hsl, HBW⟩ := hrel;obtain ⟨A, c, hv⟩ := Kd.R_slice HR.out.1;subst hv;have HB := Hi (below_next HB1.out HBW.out);have HD := Hi (doc_below HD0.out HB.out)
 by_cases hlt : k < d.waits.length
 ·
  have hltI : (k : Int) < (d.waits.length : Int) := by omega
  have hget := ch_at (Kd.C_below HCw.out HB.out) hlt;have hlc := HD.out.bnd.waits _ (List.getElem_mem hlt);have hta := fun h => take_at (kp := kp) hlt h
  generalize d.waits[k] = x at *;obtain ⟨ck, pa, tp, ⟨kd, mo, ui, gi, mt, at_, da⟩, su⟩ := x;obtain ⟨ad, hAd, hget⟩ := hget;subst hAd;have e0 : wr.cell? (ad.add (k * 11)) = some (.int .i64 ck) := hget 0 _ rfl;have e1 : wr.cell? ⟨(ad.add (k * 11)).block, (ad.add (k * 11)).off + 1, none⟩ = some (.string pa) := hget 1 _ rfl;have e2 : wr.cell? ⟨(ad.add (k * 11)).block, (ad.add (k * 11)).off + 2, none⟩ = some (.string tp) := hget 2 _ rfl;have e3 : wr.cell? ⟨(ad.add (k * 11)).block, (ad.add (k * 11)).off + 3, none⟩ = some (.int .i64 kd) := hget 3 _ rfl;have e4 : wr.cell? ⟨(ad.add (k * 11)).block, (ad.add (k * 11)).off + 4, none⟩ = some (.int .u32 mo) := hget 4 _ rfl;have e5 : wr.cell? ⟨(ad.add (k * 11)).block, (ad.add (k * 11)).off + 5, none⟩ = some (.int .u32 ui) := hget 5 _ rfl;have e6 : wr.cell? ⟨(ad.add (k * 11)).block, (ad.add (k * 11)).off + 6, none⟩ = some (.int .u32 gi) := hget 6 _ rfl;have e7 : wr.cell? ⟨(ad.add (k * 11)).block, (ad.add (k * 11)).off + 7, none⟩ = some (.int .i64 mt) := hget 7 _ rfl;have e8 : wr.cell? ⟨(ad.add (k * 11)).block, (ad.add (k * 11)).off + 8, none⟩ = some (.int .i64 at_) := hget 8 _ rfl;have e9 : wr.cell? ⟨(ad.add (k * 11)).block, (ad.add (k * 11)).off + 9, none⟩ = some (.string da) := hget 9 _ rfl;have e10 : wr.cell? ⟨(ad.add (k * 11)).block, (ad.add (k * 11)).off + 10, none⟩ = some (.bool su) := hget 10 _ rfl;clear hget;obtain ⟨hps, hds, hzs, hks⟩ := hlc;have hps : pa.size ≤ 9000 := hps;have hds : tp.size ≤ 9000 := hds;have hzs : da.size ≤ 100000 := hzs;have HKS : Hid (KindC ck) := Hi hks;clear hks;have hb5 := below_one wr (.cells #[.int .i64 ck, .string pa, .string tp, .int .i64 kd, .int .u32 mo, .int .u32 ui, .int .u32 gi, .int .i64 mt, .int .i64 at_, .string da, .bool su] 121);have HX5 := Hi (heap_new wr (.cells #[.int .i64 ck, .string pa, .string tp, .int .i64 kd, .int .u32 mo, .int .u32 ui, .int .u32 gi, .int .i64 mt, .int .i64 at_, .string da, .bool su] 121));have HBW5 := Hi (below_next HBW.out hb5);have HR5 := Hi (RowK.below HR.out hb5);have HD5 := Hi (doc_below HD.out hb5);have HK5 := Hi (Own.kp HBW5.out HK1.out);have HBX : Hid (W1.heap.size ≤ wr.heap.size) := Hi HBW.out.size;obtain ⟨n0, n1, n2, n3, n4, n5, n6, n7, n8, n9, n10⟩ := Own.cs11 HX5.out;have u0 : (wr.alloc (.cells #[.int .i64 ck, .string pa, .string tp, .int .i64 kd, .int .u32 mo, .int .u32 ui, .int .u32 gi, .int .i64 mt, .int .i64 at_, .string da, .bool su] 121)).cell? ⟨bc, 0, none⟩ = some (.int .i64 kp) := by rw [cell_of HK5.out]; rfl
  have u1 : (wr.alloc (.cells #[.int .i64 ck, .string pa, .string tp, .int .i64 kd, .int .u32 mo, .int .u32 ui, .int .u32 gi, .int .i64 mt, .int .i64 at_, .string da, .bool su] 121)).cell? ⟨bc, 1, none⟩ = some (.int .u64 mk) := by rw [cell_of HK5.out]; rfl
  have u2 : (wr.alloc (.cells #[.int .i64 ck, .string pa, .string tp, .int .i64 kd, .int .u32 mo, .int .u32 ui, .int .u32 gi, .int .i64 mt, .int .i64 at_, .string da, .bool su] 121)).cell? ⟨bc, 2, none⟩ = some (.int .i64 ct) := by rw [cell_of HK5.out]; rfl
  clear hb5 HBW HR HB
  by_cases hkp : (k : Int) < kp
  ·
   have hkp2 : ¬ kp ≤ (k : Int) := by omega
   have HE1 := HE;rw [hta hkp] at HE1;clear HE hta
   cases su with
   | true =>
    have hm : mayCut (ck, pa, tp, (kd, mo, ui, gi, mt, at_, da), true) = false := rfl;have HE2 := Hi (crash_keep HE1.out hm);clear hm HE1;have HDN := Hi (rdone_own s A c pa tp kd mo ui gi mt at_ da true (wr.alloc (.cells #[.int .i64 ck, .string pa, .string tp, .int .i64 kd, .int .u32 mo, .int .u32 ui, .int .u32 gi, .int .i64 mt, .int .i64 at_, .string da, .bool true] 121)) (Kd.R_reads' HR5.out.1).2.2 (by omega) (fun x hx => by have := HPA.out x hx; omega) (by omega) (by omega) ck HKS.out);have HBq := Hi (below_next HB1.out HBW5.out)
    go_wp2_with fail
    refine HDN.out.mono ?_;rintro e w9 ⟨v9, rfl, hr9, hb9⟩;have HRN := Hi (RowK.next HR5.out hb9 (Nat.le_trans HD0.out.low.size HBq.out.size) HBq.out.size hr9);have HBN := Hi (below_next HBW5.out hb9);have HPN := Hi (done_paths HPA.out (c := (ck, pa, tp, (kd, mo, ui, gi, mt, at_, da), true)) ⟨hps, hds, hzs, HKS.out⟩);have hln := done_len s (ck, pa, tp, (kd, mo, ui, gi, mt, at_, da), true);have HEN := Hi (HE2.out);clear hr9 hb9 HDN;obtain ⟨A9, c9, hv9⟩ := Kd.R_slice HRN.out.1;skip;subst hv9;go_wp2;go_roundw
    case rel => exact ⟨k + 1, nb, _, by omega, by go_num, by go_num, by omega, HEN, HRN, HPN, by omega, HBN⟩
    case measure => simp [intOf]; omega
   | false =>
    by_cases h1 : ck = 1
    ·
     subst h1;have hm : mayCut (1, pa, tp, (kd, mo, ui, gi, mt, at_, da), false) = true := rfl;have HMC := Hi hm;clear hm;go_wp2;generalize (wr.alloc (.cells #[.int .i64 1, .string pa, .string tp, .int .i64 kd, .int .u32 mo, .int .u32 ui, .int .u32 gi, .int .i64 mt, .int .i64 at_, .string da, .bool false] 121)) = W5 at *;generalize wr.heap.size = bx at *
     go_loopw [8, 9] (fun v i wi => ∃ j : Nat, j ≤ nb ∧ i = .int .i64 j ∧ v = .int .u64 (mk / 2 ^ j) ∧ wi = W5) (fun v i _ => nb - (intOf i).toNat)
     case atStart => exact ⟨0, Nat.zero_le _, rfl, by rw [Int.pow_zero, Int.ediv_one], by first | rfl | trivial⟩
     obtain ⟨j, hj, rfl, rfl, hw⟩ := hrel;subst hw
     by_cases hjn : j < nb
     ·
      have hjI : (j : Int) < (nb : Int) := by omega
      go_wp2;go_roundw
      case rel => exact ⟨j + 1, by omega, by go_num, by rw [half_u64 h0 h64], by first | rfl | trivial⟩
      case measure => simp [intOf]; omega
     have hj2 : ¬ (j : Int) < (nb : Int) := by omega
     have hje : j = nb := by omega
     subst hje
     by_cases hbit : mk / 2 ^ j % 2 = 1
     ·
      have q1 : ((mk / 2 ^ j).tmod 2 == 1) = true := by rw [bit_mod h0, hbit]; rfl
      have HE2 := Hi (crash_torn HE1.out HMC.out h0 h64 hbit);clear hbit HE1 HMC
      by_cases hc0 : ct < 0
      ·
       by_cases hd0 : 0 < da.size
       ·
        have hd1 : (0 : Int) < (da.size : Int) := by omega
        have hform : cutC ct (1, pa, tp, (kd, mo, ui, gi, mt, at_, da), false) = (1, pa, tp, (kd, mo, ui, gi, mt, at_, ByteArray.empty), false) := by show (_, _, _, (_, _, _, _, _, _, cutB ct da), _) = _; rw [show cutB ct da = ByteArray.empty from by unfold cutB; rw [show (min (max ct 0) (da.size : Int)).toNat = 0 by omega]; simp]
        rw [hform] at HE2;have hzs2 : (ByteArray.empty).size ≤ da.size := by exact Nat.zero_le _
        have z9 := frozen_of HX5.out 9;have HX6 := Hi (blk_put HX5.out 9 (.string (ByteArray.empty)) rfl);have HBW6 := Hi (below_of_grown HBW5.out (Nat.le_refl _) (set_grown wr bx 9 (.string (ByteArray.empty))) (fun x hx => by injection hx with hx; have := HBX.out; omega));have HR6 := Hi (rowk_set HR5.out HX5.out 9 (.string (ByteArray.empty)));obtain ⟨g0, g1, g2, g3, g4, g5, g6, g7, g8, g9, g10⟩ := Own.cs11 HX6.out;clear hform;have HDN := Hi (rdone_own s A c pa tp kd mo ui gi mt at_ ByteArray.empty false (wr.setCell ⟨bx, 9, none⟩ (.string (ByteArray.empty))) (Kd.R_reads' HR6.out.1).2.2 (by omega) (fun x hx => by have := HPA.out x hx; omega) (by omega) (by omega) 1 HKS.out);have HBq := Hi (below_next HB1.out HBW6.out)
        go_wp2_with fail
        refine HDN.out.mono ?_;rintro e w9 ⟨v9, rfl, hr9, hb9⟩;have HRN := Hi (RowK.next HR6.out hb9 (Nat.le_trans HD0.out.low.size HBq.out.size) HBq.out.size hr9);have HBN := Hi (below_next HBW6.out hb9);have HPN := Hi (done_paths HPA.out (c := (1, pa, tp, (kd, mo, ui, gi, mt, at_, ByteArray.empty), false)) ⟨hps, hds, Nat.le_trans hzs2 hzs, HKS.out⟩);have hln := done_len s (1, pa, tp, (kd, mo, ui, gi, mt, at_, ByteArray.empty), false);have HEN := Hi (HE2.out);clear hr9 hb9 HDN;obtain ⟨A9, c9, hv9⟩ := Kd.R_slice HRN.out.1;skip;subst hv9;go_wp2;go_roundw
        case rel => exact ⟨k + 1, (j + 1), _, by omega, by go_num, by go_num, by omega, HEN, HRN, HPN, by omega, HBN⟩
        case measure => simp [intOf]; omega
       have hd1 : ¬ (0 : Int) < (da.size : Int) := by omega
       have HE3 := HE2;rw [cut_whole (show (dataC (1, pa, tp, (kd, mo, ui, gi, mt, at_, da), false)).size ≤ (max ct 0).toNat by show da.size ≤ _; omega)] at HE3;clear HE2;have HDN := Hi (rdone_own s A c pa tp kd mo ui gi mt at_ da false wr (Kd.R_reads' HR5.out.1).2.2 (by omega) (fun x hx => by have := HPA.out x hx; omega) (by omega) (by omega) 1 HKS.out);have HBq := Hi (below_next HB1.out HBW5.out)
       go_wp2_with fail
       refine HDN.out.mono ?_;rintro e w9 ⟨v9, rfl, hr9, hb9⟩;have HRN := Hi (RowK.next HR5.out hb9 (Nat.le_trans HD0.out.low.size HBq.out.size) HBq.out.size hr9);have HBN := Hi (below_next HBW5.out hb9);have HPN := Hi (done_paths HPA.out (c := (1, pa, tp, (kd, mo, ui, gi, mt, at_, da), false)) ⟨hps, hds, hzs, HKS.out⟩);have hln := done_len s (1, pa, tp, (kd, mo, ui, gi, mt, at_, da), false);have HEN := Hi (HE3.out);clear hr9 hb9 HDN;obtain ⟨A9, c9, hv9⟩ := Kd.R_slice HRN.out.1;skip;subst hv9;go_wp2;go_roundw
       case rel => exact ⟨k + 1, (j + 1), _, by omega, by go_num, by go_num, by omega, HEN, HRN, HPN, by omega, HBN⟩
       case measure => simp [intOf]; omega
      have hc1 : 0 ≤ ct := by omega
      by_cases hd0 : ct < (da.size : Int)
      ·
       skip;have hform : cutC ct (1, pa, tp, (kd, mo, ui, gi, mt, at_, da), false) = (1, pa, tp, (kd, mo, ui, gi, mt, at_, (da.extract 0 ct.toNat)), false) := by show (_, _, _, (_, _, _, _, _, _, cutB ct da), _) = _; rw [show cutB ct da = (da.extract 0 ct.toNat) from by unfold cutB; rw [show (min (max ct 0) (da.size : Int)).toNat = ct.toNat by omega]]
       rw [hform] at HE2;have hzs2 : ((da.extract 0 ct.toNat)).size ≤ da.size := by rw [ByteArray.size_extract]; omega
       have z9 := frozen_of HX5.out 9;have HX6 := Hi (blk_put HX5.out 9 (.string ((da.extract 0 ct.toNat))) rfl);have HBW6 := Hi (below_of_grown HBW5.out (Nat.le_refl _) (set_grown wr bx 9 (.string ((da.extract 0 ct.toNat)))) (fun x hx => by injection hx with hx; have := HBX.out; omega));have HR6 := Hi (rowk_set HR5.out HX5.out 9 (.string ((da.extract 0 ct.toNat))));obtain ⟨g0, g1, g2, g3, g4, g5, g6, g7, g8, g9, g10⟩ := Own.cs11 HX6.out;clear hform;have HDN := Hi (rdone_own s A c pa tp kd mo ui gi mt at_ (da.extract 0 ct.toNat) false (wr.setCell ⟨bx, 9, none⟩ (.string ((da.extract 0 ct.toNat)))) (Kd.R_reads' HR6.out.1).2.2 (by omega) (fun x hx => by have := HPA.out x hx; omega) (by omega) (by omega) 1 HKS.out);have HBq := Hi (below_next HB1.out HBW6.out)
       go_wp2_with fail
       refine HDN.out.mono ?_;rintro e w9 ⟨v9, rfl, hr9, hb9⟩;have HRN := Hi (RowK.next HR6.out hb9 (Nat.le_trans HD0.out.low.size HBq.out.size) HBq.out.size hr9);have HBN := Hi (below_next HBW6.out hb9);have HPN := Hi (done_paths HPA.out (c := (1, pa, tp, (kd, mo, ui, gi, mt, at_, (da.extract 0 ct.toNat)), false)) ⟨hps, hds, Nat.le_trans hzs2 hzs, HKS.out⟩);have hln := done_len s (1, pa, tp, (kd, mo, ui, gi, mt, at_, (da.extract 0 ct.toNat)), false);have HEN := Hi (HE2.out);clear hr9 hb9 HDN;obtain ⟨A9, c9, hv9⟩ := Kd.R_slice HRN.out.1;skip;subst hv9;go_wp2;go_roundw
       case rel => exact ⟨k + 1, (j + 1), _, by omega, by go_num, by go_num, by omega, HEN, HRN, HPN, by omega, HBN⟩
       case measure => simp [intOf]; omega
      skip;have HE3 := HE2;rw [cut_whole (show (dataC (1, pa, tp, (kd, mo, ui, gi, mt, at_, da), false)).size ≤ (max ct 0).toNat by show da.size ≤ _; omega)] at HE3;clear HE2;have HDN := Hi (rdone_own s A c pa tp kd mo ui gi mt at_ da false wr (Kd.R_reads' HR5.out.1).2.2 (by omega) (fun x hx => by have := HPA.out x hx; omega) (by omega) (by omega) 1 HKS.out);have HBq := Hi (below_next HB1.out HBW5.out)
      go_wp2_with fail
      refine HDN.out.mono ?_;rintro e w9 ⟨v9, rfl, hr9, hb9⟩;have HRN := Hi (RowK.next HR5.out hb9 (Nat.le_trans HD0.out.low.size HBq.out.size) HBq.out.size hr9);have HBN := Hi (below_next HBW5.out hb9);have HPN := Hi (done_paths HPA.out (c := (1, pa, tp, (kd, mo, ui, gi, mt, at_, da), false)) ⟨hps, hds, hzs, HKS.out⟩);have hln := done_len s (1, pa, tp, (kd, mo, ui, gi, mt, at_, da), false);have HEN := Hi (HE3.out);clear hr9 hb9 HDN;obtain ⟨A9, c9, hv9⟩ := Kd.R_slice HRN.out.1;skip;subst hv9;go_wp2;go_roundw
      case rel => exact ⟨k + 1, (j + 1), _, by omega, by go_num, by go_num, by omega, HEN, HRN, HPN, by omega, HBN⟩
      case measure => simp [intOf]; omega
     have q1 : ((mk / 2 ^ j).tmod 2 == 1) = false := by rw [bit_mod h0]; exact beq_eq_false_iff_ne.2 hbit
     have HE2 := Hi (crash_full HE1.out HMC.out hbit);clear hbit HE1 HMC;have HDN := Hi (rdone_own s A c pa tp kd mo ui gi mt at_ da false wr (Kd.R_reads' HR5.out.1).2.2 (by omega) (fun x hx => by have := HPA.out x hx; omega) (by omega) (by omega) 1 HKS.out);have HBq := Hi (below_next HB1.out HBW5.out)
     go_wp2_with fail
     refine HDN.out.mono ?_;rintro e w9 ⟨v9, rfl, hr9, hb9⟩;have HRN := Hi (RowK.next HR5.out hb9 (Nat.le_trans HD0.out.low.size HBq.out.size) HBq.out.size hr9);have HBN := Hi (below_next HBW5.out hb9);have HPN := Hi (done_paths HPA.out (c := (1, pa, tp, (kd, mo, ui, gi, mt, at_, da), false)) ⟨hps, hds, hzs, HKS.out⟩);have hln := done_len s (1, pa, tp, (kd, mo, ui, gi, mt, at_, da), false);have HEN := Hi (HE2.out);clear hr9 hb9 HDN;obtain ⟨A9, c9, hv9⟩ := Kd.R_slice HRN.out.1;skip;subst hv9;go_wp2;go_roundw
     case rel => exact ⟨k + 1, (j + 1), _, by omega, by go_num, by go_num, by omega, HEN, HRN, HPN, by omega, HBN⟩
     case measure => simp [intOf]; omega
    have v1 : (ck == 1) = false := beq_eq_false_iff_ne.2 h1
    by_cases h2 : ck = 0
    ·
     subst h2;clear v1
     by_cases h3 : kd = 2
     ·
      subst h3;have hm : mayCut (0, pa, tp, (2, mo, ui, gi, mt, at_, da), false) = true := rfl;have HMC := Hi hm;clear hm;go_wp2;generalize (wr.alloc (.cells #[.int .i64 0, .string pa, .string tp, .int .i64 2, .int .u32 mo, .int .u32 ui, .int .u32 gi, .int .i64 mt, .int .i64 at_, .string da, .bool false] 121)) = W5 at *;generalize wr.heap.size = bx at *
      go_loopw [8, 9] (fun v i wi => ∃ j : Nat, j ≤ nb ∧ i = .int .i64 j ∧ v = .int .u64 (mk / 2 ^ j) ∧ wi = W5) (fun v i _ => nb - (intOf i).toNat)
      case atStart => exact ⟨0, Nat.zero_le _, rfl, by rw [Int.pow_zero, Int.ediv_one], by first | rfl | trivial⟩
      obtain ⟨j, hj, rfl, rfl, hw⟩ := hrel;subst hw
      by_cases hjn : j < nb
      ·
       have hjI : (j : Int) < (nb : Int) := by omega
       go_wp2;go_roundw
       case rel => exact ⟨j + 1, by omega, by go_num, by rw [half_u64 h0 h64], by first | rfl | trivial⟩
       case measure => simp [intOf]; omega
      have hj2 : ¬ (j : Int) < (nb : Int) := by omega
      have hje : j = nb := by omega
      subst hje
      by_cases hbit : mk / 2 ^ j % 2 = 1
      ·
       have q1 : ((mk / 2 ^ j).tmod 2 == 1) = true := by rw [bit_mod h0, hbit]; rfl
       have HE2 := Hi (crash_torn HE1.out HMC.out h0 h64 hbit);clear hbit HE1 HMC
       by_cases hc0 : ct < 0
       ·
        by_cases hd0 : 0 < da.size
        ·
         have hd1 : (0 : Int) < (da.size : Int) := by omega
         have hform : cutC ct (0, pa, tp, (2, mo, ui, gi, mt, at_, da), false) = (0, pa, tp, (2, mo, ui, gi, mt, at_, ByteArray.empty), false) := by show (_, _, _, (_, _, _, _, _, _, cutB ct da), _) = _; rw [show cutB ct da = ByteArray.empty from by unfold cutB; rw [show (min (max ct 0) (da.size : Int)).toNat = 0 by omega]; simp]
         rw [hform] at HE2;have hzs2 : (ByteArray.empty).size ≤ da.size := by exact Nat.zero_le _
         have z9 := frozen_of HX5.out 9;have HX6 := Hi (blk_put HX5.out 9 (.string (ByteArray.empty)) rfl);have HBW6 := Hi (below_of_grown HBW5.out (Nat.le_refl _) (set_grown wr bx 9 (.string (ByteArray.empty))) (fun x hx => by injection hx with hx; have := HBX.out; omega));have HR6 := Hi (rowk_set HR5.out HX5.out 9 (.string (ByteArray.empty)));obtain ⟨g0, g1, g2, g3, g4, g5, g6, g7, g8, g9, g10⟩ := Own.cs11 HX6.out;clear hform;have HDN := Hi (rdone_own s A c pa tp 2 mo ui gi mt at_ ByteArray.empty false (wr.setCell ⟨bx, 9, none⟩ (.string (ByteArray.empty))) (Kd.R_reads' HR6.out.1).2.2 (by omega) (fun x hx => by have := HPA.out x hx; omega) (by omega) (by omega) 0 HKS.out);have HBq := Hi (below_next HB1.out HBW6.out)
         go_wp2_with fail
         refine HDN.out.mono ?_;rintro e w9 ⟨v9, rfl, hr9, hb9⟩;have HRN := Hi (RowK.next HR6.out hb9 (Nat.le_trans HD0.out.low.size HBq.out.size) HBq.out.size hr9);have HBN := Hi (below_next HBW6.out hb9);have HPN := Hi (done_paths HPA.out (c := (0, pa, tp, (2, mo, ui, gi, mt, at_, ByteArray.empty), false)) ⟨hps, hds, Nat.le_trans hzs2 hzs, HKS.out⟩);have hln := done_len s (0, pa, tp, (2, mo, ui, gi, mt, at_, ByteArray.empty), false);have HEN := Hi (HE2.out);clear hr9 hb9 HDN;obtain ⟨A9, c9, hv9⟩ := Kd.R_slice HRN.out.1;skip;subst hv9;go_wp2;go_roundw
         case rel => exact ⟨k + 1, (j + 1), _, by omega, by go_num, by go_num, by omega, HEN, HRN, HPN, by omega, HBN⟩
         case measure => simp [intOf]; omega
        have hd1 : ¬ (0 : Int) < (da.size : Int) := by omega
        have HE3 := HE2;rw [cut_whole (show (dataC (0, pa, tp, (2, mo, ui, gi, mt, at_, da), false)).size ≤ (max ct 0).toNat by show da.size ≤ _; omega)] at HE3;clear HE2;have HDN := Hi (rdone_own s A c pa tp 2 mo ui gi mt at_ da false wr (Kd.R_reads' HR5.out.1).2.2 (by omega) (fun x hx => by have := HPA.out x hx; omega) (by omega) (by omega) 0 HKS.out);have HBq := Hi (below_next HB1.out HBW5.out)
        go_wp2_with fail
        refine HDN.out.mono ?_;rintro e w9 ⟨v9, rfl, hr9, hb9⟩;have HRN := Hi (RowK.next HR5.out hb9 (Nat.le_trans HD0.out.low.size HBq.out.size) HBq.out.size hr9);have HBN := Hi (below_next HBW5.out hb9);have HPN := Hi (done_paths HPA.out (c := (0, pa, tp, (2, mo, ui, gi, mt, at_, da), false)) ⟨hps, hds, hzs, HKS.out⟩);have hln := done_len s (0, pa, tp, (2, mo, ui, gi, mt, at_, da), false);have HEN := Hi (HE3.out);clear hr9 hb9 HDN;obtain ⟨A9, c9, hv9⟩ := Kd.R_slice HRN.out.1;skip;subst hv9;go_wp2;go_roundw
        case rel => exact ⟨k + 1, (j + 1), _, by omega, by go_num, by go_num, by omega, HEN, HRN, HPN, by omega, HBN⟩
        case measure => simp [intOf]; omega
       have hc1 : 0 ≤ ct := by omega
       by_cases hd0 : ct < (da.size : Int)
       ·
        skip;have hform : cutC ct (0, pa, tp, (2, mo, ui, gi, mt, at_, da), false) = (0, pa, tp, (2, mo, ui, gi, mt, at_, (da.extract 0 ct.toNat)), false) := by show (_, _, _, (_, _, _, _, _, _, cutB ct da), _) = _; rw [show cutB ct da = (da.extract 0 ct.toNat) from by unfold cutB; rw [show (min (max ct 0) (da.size : Int)).toNat = ct.toNat by omega]]
        rw [hform] at HE2;have hzs2 : ((da.extract 0 ct.toNat)).size ≤ da.size := by rw [ByteArray.size_extract]; omega
        have z9 := frozen_of HX5.out 9;have HX6 := Hi (blk_put HX5.out 9 (.string ((da.extract 0 ct.toNat))) rfl);have HBW6 := Hi (below_of_grown HBW5.out (Nat.le_refl _) (set_grown wr bx 9 (.string ((da.extract 0 ct.toNat)))) (fun x hx => by injection hx with hx; have := HBX.out; omega));have HR6 := Hi (rowk_set HR5.out HX5.out 9 (.string ((da.extract 0 ct.toNat))));obtain ⟨g0, g1, g2, g3, g4, g5, g6, g7, g8, g9, g10⟩ := Own.cs11 HX6.out;clear hform;have HDN := Hi (rdone_own s A c pa tp 2 mo ui gi mt at_ (da.extract 0 ct.toNat) false (wr.setCell ⟨bx, 9, none⟩ (.string ((da.extract 0 ct.toNat)))) (Kd.R_reads' HR6.out.1).2.2 (by omega) (fun x hx => by have := HPA.out x hx; omega) (by omega) (by omega) 0 HKS.out);have HBq := Hi (below_next HB1.out HBW6.out)
        go_wp2_with fail
        refine HDN.out.mono ?_;rintro e w9 ⟨v9, rfl, hr9, hb9⟩;have HRN := Hi (RowK.next HR6.out hb9 (Nat.le_trans HD0.out.low.size HBq.out.size) HBq.out.size hr9);have HBN := Hi (below_next HBW6.out hb9);have HPN := Hi (done_paths HPA.out (c := (0, pa, tp, (2, mo, ui, gi, mt, at_, (da.extract 0 ct.toNat)), false)) ⟨hps, hds, Nat.le_trans hzs2 hzs, HKS.out⟩);have hln := done_len s (0, pa, tp, (2, mo, ui, gi, mt, at_, (da.extract 0 ct.toNat)), false);have HEN := Hi (HE2.out);clear hr9 hb9 HDN;obtain ⟨A9, c9, hv9⟩ := Kd.R_slice HRN.out.1;skip;subst hv9;go_wp2;go_roundw
        case rel => exact ⟨k + 1, (j + 1), _, by omega, by go_num, by go_num, by omega, HEN, HRN, HPN, by omega, HBN⟩
        case measure => simp [intOf]; omega
       skip;have HE3 := HE2;rw [cut_whole (show (dataC (0, pa, tp, (2, mo, ui, gi, mt, at_, da), false)).size ≤ (max ct 0).toNat by show da.size ≤ _; omega)] at HE3;clear HE2;have HDN := Hi (rdone_own s A c pa tp 2 mo ui gi mt at_ da false wr (Kd.R_reads' HR5.out.1).2.2 (by omega) (fun x hx => by have := HPA.out x hx; omega) (by omega) (by omega) 0 HKS.out);have HBq := Hi (below_next HB1.out HBW5.out)
       go_wp2_with fail
       refine HDN.out.mono ?_;rintro e w9 ⟨v9, rfl, hr9, hb9⟩;have HRN := Hi (RowK.next HR5.out hb9 (Nat.le_trans HD0.out.low.size HBq.out.size) HBq.out.size hr9);have HBN := Hi (below_next HBW5.out hb9);have HPN := Hi (done_paths HPA.out (c := (0, pa, tp, (2, mo, ui, gi, mt, at_, da), false)) ⟨hps, hds, hzs, HKS.out⟩);have hln := done_len s (0, pa, tp, (2, mo, ui, gi, mt, at_, da), false);have HEN := Hi (HE3.out);clear hr9 hb9 HDN;obtain ⟨A9, c9, hv9⟩ := Kd.R_slice HRN.out.1;skip;subst hv9;go_wp2;go_roundw
       case rel => exact ⟨k + 1, (j + 1), _, by omega, by go_num, by go_num, by omega, HEN, HRN, HPN, by omega, HBN⟩
       case measure => simp [intOf]; omega
      have q1 : ((mk / 2 ^ j).tmod 2 == 1) = false := by rw [bit_mod h0]; exact beq_eq_false_iff_ne.2 hbit
      have HE2 := Hi (crash_full HE1.out HMC.out hbit);clear hbit HE1 HMC;have HDN := Hi (rdone_own s A c pa tp 2 mo ui gi mt at_ da false wr (Kd.R_reads' HR5.out.1).2.2 (by omega) (fun x hx => by have := HPA.out x hx; omega) (by omega) (by omega) 0 HKS.out);have HBq := Hi (below_next HB1.out HBW5.out)
      go_wp2_with fail
      refine HDN.out.mono ?_;rintro e w9 ⟨v9, rfl, hr9, hb9⟩;have HRN := Hi (RowK.next HR5.out hb9 (Nat.le_trans HD0.out.low.size HBq.out.size) HBq.out.size hr9);have HBN := Hi (below_next HBW5.out hb9);have HPN := Hi (done_paths HPA.out (c := (0, pa, tp, (2, mo, ui, gi, mt, at_, da), false)) ⟨hps, hds, hzs, HKS.out⟩);have hln := done_len s (0, pa, tp, (2, mo, ui, gi, mt, at_, da), false);have HEN := Hi (HE2.out);clear hr9 hb9 HDN;obtain ⟨A9, c9, hv9⟩ := Kd.R_slice HRN.out.1;skip;subst hv9;go_wp2;go_roundw
      case rel => exact ⟨k + 1, (j + 1), _, by omega, by go_num, by go_num, by omega, HEN, HRN, HPN, by omega, HBN⟩
      case measure => simp [intOf]; omega
     have v3 : (kd == 2) = false := beq_eq_false_iff_ne.2 h3;have hm : mayCut (0, pa, tp, (kd, mo, ui, gi, mt, at_, da), false) = false := by unfold mayCut; simp [h3]
     have HE2 := Hi (crash_keep HE1.out hm);clear hm HE1;have HDN := Hi (rdone_own s A c pa tp kd mo ui gi mt at_ da false (wr.alloc (.cells #[.int .i64 0, .string pa, .string tp, .int .i64 kd, .int .u32 mo, .int .u32 ui, .int .u32 gi, .int .i64 mt, .int .i64 at_, .string da, .bool false] 121)) (Kd.R_reads' HR5.out.1).2.2 (by omega) (fun x hx => by have := HPA.out x hx; omega) (by omega) (by omega) 0 HKS.out);have HBq := Hi (below_next HB1.out HBW5.out)
     go_wp2_with fail
     refine HDN.out.mono ?_;rintro e w9 ⟨v9, rfl, hr9, hb9⟩;have HRN := Hi (RowK.next HR5.out hb9 (Nat.le_trans HD0.out.low.size HBq.out.size) HBq.out.size hr9);have HBN := Hi (below_next HBW5.out hb9);have HPN := Hi (done_paths HPA.out (c := (0, pa, tp, (kd, mo, ui, gi, mt, at_, da), false)) ⟨hps, hds, hzs, HKS.out⟩);have hln := done_len s (0, pa, tp, (kd, mo, ui, gi, mt, at_, da), false);have HEN := Hi (HE2.out);clear hr9 hb9 HDN;obtain ⟨A9, c9, hv9⟩ := Kd.R_slice HRN.out.1;skip;subst hv9;go_wp2;go_roundw
     case rel => exact ⟨k + 1, nb, _, by omega, by go_num, by go_num, by omega, HEN, HRN, HPN, by omega, HBN⟩
     case measure => simp [intOf]; omega
    have v2 : (ck == 0) = false := beq_eq_false_iff_ne.2 h2;have hm : mayCut (ck, pa, tp, (kd, mo, ui, gi, mt, at_, da), false) = false := by unfold mayCut; simp [h1, h2]
    have HE2 := Hi (crash_keep HE1.out hm);clear hm HE1;have HDN := Hi (rdone_own s A c pa tp kd mo ui gi mt at_ da false (wr.alloc (.cells #[.int .i64 ck, .string pa, .string tp, .int .i64 kd, .int .u32 mo, .int .u32 ui, .int .u32 gi, .int .i64 mt, .int .i64 at_, .string da, .bool false] 121)) (Kd.R_reads' HR5.out.1).2.2 (by omega) (fun x hx => by have := HPA.out x hx; omega) (by omega) (by omega) ck HKS.out);have HBq := Hi (below_next HB1.out HBW5.out)
    go_wp2_with fail
    refine HDN.out.mono ?_;rintro e w9 ⟨v9, rfl, hr9, hb9⟩;have HRN := Hi (RowK.next HR5.out hb9 (Nat.le_trans HD0.out.low.size HBq.out.size) HBq.out.size hr9);have HBN := Hi (below_next HBW5.out hb9);have HPN := Hi (done_paths HPA.out (c := (ck, pa, tp, (kd, mo, ui, gi, mt, at_, da), false)) ⟨hps, hds, hzs, HKS.out⟩);have hln := done_len s (ck, pa, tp, (kd, mo, ui, gi, mt, at_, da), false);have HEN := Hi (HE2.out);clear hr9 hb9 HDN;obtain ⟨A9, c9, hv9⟩ := Kd.R_slice HRN.out.1;skip;subst hv9;go_wp2;go_roundw
    case rel => exact ⟨k + 1, nb, _, by omega, by go_num, by go_num, by omega, HEN, HRN, HPN, by omega, HBN⟩
    case measure => simp [intOf]; omega
  have hkp2 : kp ≤ (k : Int) := by omega
  have HES : Hid (s = crashGo mk ct 0 (d.waits.take (max kp 0).toNat) d.base) := Hi (by have h := HE.out; rw [take_end (.inl hkp2)] at h; rw [← HCR.out]; exact h);clear HE hta HK5 HX5;have HBq := Hi (below_next HB1.out HBW5.out);have hA0 := rbase HD5.out.at_ HR5.out.1;have hA1 := rwaits hA0 (Kd.R_nil chK 121 _ W0.heap.size (fun _ => True)) (grown_refl _ _);have hA2 := hA1.put 5 (.bool false) (d' := { d with base := s, waits := [], off := false }) rfl rfl rfl;have hA3 := hA2.put 3 (.int .i64 (-1)) (d' := { d with base := s, waits := [], off := false, fuse := -1 }) rfl rfl rfl;have hA4 := hA3.put 4 (.int .i64 0) (d' := { d with base := s, waits := [], off := false, fuse := -1, fail := 0 }) rfl rfl rfl;have f0 := HD5.out.at_.c0;have f1 := hA0.c1;have f5 := hA1.c5;have f3 := hA2.c3;have f4 := hA3.c4;have y0 := HD5.out.at_.fz 0;have y1 := hA0.fz 1;have y5 := hA1.fz 5;have y3 := hA2.fz 3;have y4 := hA3.fz 4;have HA := Hi hA4;have HS := Hi (still_crash (b := b) (vb := vb) (vw := .slice (some ad) d.waits.length cw) (v1 := .slice A s.length c) HBq.out HR5.out.own (.slice A s.length c) (.slice none 0 0) (.bool false) (.int .i64 (-1)) (.int .i64 0));clear hA0 hA1 hA2 hA3 hA4;go_wp2;go_end0;refine ⟨rfl, _, _, ?_, HS.out⟩;have h := HA.out;unfold crashD;rw [← HES.out];exact h
 have hj2 : ¬ (k : Int) < (d.waits.length : Int) := by omega
 have HES : Hid (s = crashGo mk ct 0 (d.waits.take (max kp 0).toNat) d.base) := Hi (by have h := HE.out; rw [take_end (.inr (by omega))] at h; rw [← HCR.out]; exact h);clear HE;have HBq := Hi (below_next HB1.out HBW.out);have hA0 := rbase HD.out.at_ HR.out.1;have hA1 := rwaits hA0 (Kd.R_nil chK 121 _ W0.heap.size (fun _ => True)) (grown_refl _ _);have hA2 := hA1.put 5 (.bool false) (d' := { d with base := s, waits := [], off := false }) rfl rfl rfl;have hA3 := hA2.put 3 (.int .i64 (-1)) (d' := { d with base := s, waits := [], off := false, fuse := -1 }) rfl rfl rfl;have hA4 := hA3.put 4 (.int .i64 0) (d' := { d with base := s, waits := [], off := false, fuse := -1, fail := 0 }) rfl rfl rfl;have f0 := HD.out.at_.c0;have f1 := hA0.c1;have f5 := hA1.c5;have f3 := hA2.c3;have f4 := hA3.c4;have y0 := HD.out.at_.fz 0;have y1 := hA0.fz 1;have y5 := hA1.fz 5;have y3 := hA2.fz 3;have y4 := hA3.fz 4;have HA := Hi hA4;have HS := Hi (still_crash (b := b) (vb := vb) (vw := .slice Aw d.waits.length cw) (v1 := .slice A s.length c) HBq.out HR.out.own (.slice A s.length c) (.slice none 0 0) (.bool false) (.int .i64 (-1)) (.int .i64 0));clear hA0 hA1 hA2 hA3 hA4;go_wp2;go_end0;refine ⟨rfl, _, _, ?_, HS.out⟩;have h := HA.out;unfold crashD;rw [← HES.out];exact h
end Go.Proofs.YtibmfjacfbpfgaaGreatDoor.RCrash
