/- disk: a change as a crash cuts it; laws for the crash. -/
import Derived.Test.YtibmfjacfbpfgaaGreatDoorRefC
import Derived.Test.YtibmfjacfbpfgaaGreatDoorDiskB
set_option linter.unusedVariables false
set_option linter.unusedSimpArgs false
namespace Go.Proofs.YtibmfjacfbpfgaaGreatDoor.DCrashA
open Go.RowKit YtibmfjacfbpfgaaGreatDoorW.PrintWords YtibmfjacfbpfgaaGreatDoorW.PrintLast YtibmfjacfbpfgaaGreatDoorW.PrintMore NameLaw NameWalk NameRef NameUse YtibmfjacfbpfgaaGreatDoor.Item Own NodeRes TreeLaw SortIns SortSwap FillLaw DiffLaw RealLaw DoneLaw RealKeep KeepLaw OpLaw OpKeep DkLaw DAt DSmall DRows DDone DWait DState DFlush DSync RDisk ROwnA RCrashL
section
variable {W W1 : World} {n b : Nat} {vl vs vq v1 : Value} {l s l1 s1 : List It} {q : List Chg} {lim fu fa st : Int} {off : Bool}
theorem dlastsP (h : DAt W n b vl vs vq l s q lim fu fa st off) (hp : RowPost n W W1 vl v1 l1) : DAt (W1.setCell ⟨b, 0, none⟩ v1) n b v1 vs vq l1 s q lim fu fa st off := by
 have hbn : some b ≠ vl.ownBlock := Kd.R_ne h.rl h.blk (by decide)
 have at1 := (hp.2.1.block b h.lt hbn).trans h.blk
 refine ⟨blk_put at1 0 v1 rfl, Kd.R_set (Kd.R_reok rfl hp.1 (fun k hk => ?_)) at1 (by decide) 0 v1, Kd.R_set (Kd.R_grown2 h.rs rfl hp.2.1 (fun k hk => h.rl.1 k hk)) at1 (by decide) 0 v1, Kd.R_set ?_ at1 (by decide) 0 v1, h.nb⟩
 ·
  rcases hp.2.2 with e | ⟨b2, e, hle⟩
  ·
   exact h.rl.1 k (e ▸ hk)
  rw [e] at hk
  injection hk with hk
  intro h1
  obtain ⟨inner, ho⟩ := Kd.R_own h.rs
  have := own_lt ho k h1.symm
  omega
 refine Kd.R_grown2 h.rq rfl hp.2.1 (fun k hk => ?_)
 obtain ⟨inner, ho⟩ := Kd.R_own h.rl
 obtain ⟨cells, hc⟩ := own_typed ho k hk
 exact Kd.R_ne h.rq hc (by decide)
theorem dshowsN (h : DAt W n b vl vs vq l s q lim fu fa st off) (hb : Below W.heap.size W W1) (hn : n ≤ W.heap.size) (hr : itemK.R 77 W1 W.heap.size (fun _ => True) v1 s1) : DAt (W1.setCell ⟨b, 1, none⟩ v1) n b vl v1 vq l s1 q lim fu fa st off := by
 have h1 := h.below hb
 exact ⟨blk_put h1.blk 1 v1 rfl, Kd.R_set (Kd.R_reok rfl h1.rl (fun k hk e => by have := Kd.R_base hr k e.symm; have := Kd.R_lt h.rl k hk; omega)) h1.blk (by decide) 1 v1, Kd.R_set (Kd.R_lower hr hn) h1.blk (by decide) 1 v1, Kd.R_set h1.rq h1.blk (by decide) 1 v1, h.nb⟩
theorem still_lasts (b : Nat) (vs vq : Value) (hp : RowPost n W W1 vl v1 s1) : Still W W1 (Owns b vl vs vq) (Owns b v1 vs vq) :=
 Still.grown hp.2.1 (fun k e => .inr (.inl e)) (fun k hk => by
  rcases hk with e | e | e | e
  ·
   exact .inl (.inl e)
  ·
   rcases hp.2.2 with o | ⟨g, o, hg⟩
   ·
    exact .inl (.inr (.inl (o ▸ e)))
   rw [o] at e; injection e with e; exact .inr (e ▸ hg)
  ·
   exact .inl (.inr (.inr (.inl e)))
  exact .inl (.inr (.inr (.inr e))))
end
theorem and_one {x : Int} (h0 : 0 ≤ x) (h1 : x < 18446744073709551616) : Go.bits .and .u64 x 1 = x % 2 := by
 have e : Go.bits .and .u64 x 1 = IntKind.u64.wrap (((BitVec.ofInt 64 x) &&& (BitVec.ofInt 64 1)).toNat : Int) := rfl
 rw [e, BitVec.toNat_and, show (BitVec.ofInt 64 1).toNat = 2 ^ 1 - 1 by decide, Nat.and_two_pow_sub_one_eq_mod, BitVec.toNat_ofInt]
 simp only [IntKind.wrap, IntKind.bits, IntKind.signed]
 simp only [Bool.false_and, if_neg (Bool.false_ne_true)]
 omega
theorem bit_at {mk : Int} (h0 : 0 ≤ mk) (h64 : mk < 2 ^ 64) (j : Nat) : Go.bits .and .u64 (mk / 2 ^ j) 1 = mk / 2 ^ j % 2 := by
 have hp : (0 : Int) < 2 ^ j := Int.pow_pos (by decide)
 have h1 : 0 ≤ mk / 2 ^ j := Int.ediv_nonneg h0 (Int.le_of_lt hp)
 have h2 : mk / 2 ^ j ≤ mk := Int.ediv_le_self _ h0
 exact and_one h1 (by omega)
theorem no_bit {mk : Int} (h0 : 0 ≤ mk) (h64 : mk < 2 ^ 64) {j : Nat} (h : 64 ≤ j) : ¬ mk / 2 ^ j % 2 = 1 := by
 have h1 : (2 : Int) ^ 64 ≤ 2 ^ j := by exact_mod_cast Nat.pow_le_pow_right (by decide) h
 rw [Int.ediv_eq_zero_of_lt h0 (by omega)]
 decide
theorem sizeCh : (Tryz.prog.info? 93).map (·.size) = some 11 := by kernel_rfl
theorem change_put {W : World} {g : Nat} {a0 a1 a2 a3 a4 a5 a6 a7 a8 a9 a10 : Value} (h : W.heap[g]? = some (.cells #[a0, a1, a2, a3, a4, a5, a6, a7, a8, a9, a10] 93 (0, 0))) (u0 u1 u2 u3 u4 u5 u6 u7 u8 u9 u10 : Value) :
  (((((((((((W.setCell ⟨g, 0, none⟩ (u0)).setCell ⟨g, 1, none⟩ (u1)).setCell ⟨g, 2, none⟩ (u2)).setCell ⟨g, 3, none⟩ (u3)).setCell ⟨g, 4, none⟩ (u4)).setCell ⟨g, 5, none⟩ (u5)).setCell ⟨g, 6, none⟩ (u6)).setCell ⟨g, 7, none⟩ (u7)).setCell ⟨g, 8, none⟩ (u8)).setCell ⟨g, 9, none⟩ (u9)).setCell ⟨g, 10, none⟩ (u10)).heap[g]? = some (.cells #[u0, u1, u2, u3, u4, u5, u6, u7, u8, u9, u10] 93 (0, 0)) := by
 have h0 := h
 clear h
 generalize W = W0 at *
 have h1 : (W0.setCell ⟨g, 0, none⟩ u0).heap[g]? = some (.cells #[u0, a1, a2, a3, a4, a5, a6, a7, a8, a9, a10] 93 (0, 0)) := blk_put h0 0 u0 rfl
 generalize W0.setCell ⟨g, 0, none⟩ u0 = W1 at *
 have h2 : (W1.setCell ⟨g, 1, none⟩ u1).heap[g]? = some (.cells #[u0, u1, a2, a3, a4, a5, a6, a7, a8, a9, a10] 93 (0, 0)) := blk_put h1 1 u1 rfl
 generalize W1.setCell ⟨g, 1, none⟩ u1 = W2 at *
 have h3 : (W2.setCell ⟨g, 2, none⟩ u2).heap[g]? = some (.cells #[u0, u1, u2, a3, a4, a5, a6, a7, a8, a9, a10] 93 (0, 0)) := blk_put h2 2 u2 rfl
 generalize W2.setCell ⟨g, 2, none⟩ u2 = W3 at *
 have h4 : (W3.setCell ⟨g, 3, none⟩ u3).heap[g]? = some (.cells #[u0, u1, u2, u3, a4, a5, a6, a7, a8, a9, a10] 93 (0, 0)) := blk_put h3 3 u3 rfl
 generalize W3.setCell ⟨g, 3, none⟩ u3 = W4 at *
 have h5 : (W4.setCell ⟨g, 4, none⟩ u4).heap[g]? = some (.cells #[u0, u1, u2, u3, u4, a5, a6, a7, a8, a9, a10] 93 (0, 0)) := blk_put h4 4 u4 rfl
 generalize W4.setCell ⟨g, 4, none⟩ u4 = W5 at *
 have h6 : (W5.setCell ⟨g, 5, none⟩ u5).heap[g]? = some (.cells #[u0, u1, u2, u3, u4, u5, a6, a7, a8, a9, a10] 93 (0, 0)) := blk_put h5 5 u5 rfl
 generalize W5.setCell ⟨g, 5, none⟩ u5 = W6 at *
 have h7 : (W6.setCell ⟨g, 6, none⟩ u6).heap[g]? = some (.cells #[u0, u1, u2, u3, u4, u5, u6, a7, a8, a9, a10] 93 (0, 0)) := blk_put h6 6 u6 rfl
 generalize W6.setCell ⟨g, 6, none⟩ u6 = W7 at *
 have h8 : (W7.setCell ⟨g, 7, none⟩ u7).heap[g]? = some (.cells #[u0, u1, u2, u3, u4, u5, u6, u7, a8, a9, a10] 93 (0, 0)) := blk_put h7 7 u7 rfl
 generalize W7.setCell ⟨g, 7, none⟩ u7 = W8 at *
 have h9 : (W8.setCell ⟨g, 8, none⟩ u8).heap[g]? = some (.cells #[u0, u1, u2, u3, u4, u5, u6, u7, u8, a9, a10] 93 (0, 0)) := blk_put h8 8 u8 rfl
 generalize W8.setCell ⟨g, 8, none⟩ u8 = W9 at *
 have h10 : (W9.setCell ⟨g, 9, none⟩ u9).heap[g]? = some (.cells #[u0, u1, u2, u3, u4, u5, u6, u7, u8, u9, a10] 93 (0, 0)) := blk_put h9 9 u9 rfl
 generalize W9.setCell ⟨g, 9, none⟩ u9 = W10 at *
 have h11 : (W10.setCell ⟨g, 10, none⟩ u10).heap[g]? = some (.cells #[u0, u1, u2, u3, u4, u5, u6, u7, u8, u9, u10] 93 (0, 0)) := blk_put h10 10 u10 rfl
 generalize W10.setCell ⟨g, 10, none⟩ u10 = W11 at *
 exact h11
theorem change_below {n : Nat} {W0 W : World} {g : Nat} (hb : Below n W0 W) (hn : n ≤ W0.heap.size) (hg : n ≤ g) (u0 u1 u2 u3 u4 u5 u6 u7 u8 u9 u10 : Value) :
  Below n W0 (((((((((((W.setCell ⟨g, 0, none⟩ (u0)).setCell ⟨g, 1, none⟩ (u1)).setCell ⟨g, 2, none⟩ (u2)).setCell ⟨g, 3, none⟩ (u3)).setCell ⟨g, 4, none⟩ (u4)).setCell ⟨g, 5, none⟩ (u5)).setCell ⟨g, 6, none⟩ (u6)).setCell ⟨g, 7, none⟩ (u7)).setCell ⟨g, 8, none⟩ (u8)).setCell ⟨g, 9, none⟩ (u9)).setCell ⟨g, 10, none⟩ (u10)) := by
 have hr : ∀ x, some g = some x → n ≤ x := fun x hx => by injection hx with hx; omega
 exact (below_grown (below_grown (below_grown (below_grown (below_grown (below_grown (below_grown (below_grown (below_grown (below_grown (below_grown hb hn (set_grown _ _ _ _) hr) hn (set_grown _ _ _ _) hr) hn (set_grown _ _ _ _) hr) hn (set_grown _ _ _ _) hr) hn (set_grown _ _ _ _) hr) hn (set_grown _ _ _ _) hr) hn (set_grown _ _ _ _) hr) hn (set_grown _ _ _ _) hr) hn (set_grown _ _ _ _) hr) hn (set_grown _ _ _ _) hr) hn (set_grown _ _ _ _) hr)
theorem cut_is (ct : Int) (da : ByteArray) : da.extract 0 (min (max ct 0) (da.size : Int)).toNat = cutB ct da := rfl
theorem may_cases (ck : Int) (pa tp : ByteArray) (kd mo ui gi mt at_ : Int) (da : ByteArray) (su : Bool) : (mayCut (ck, pa, tp, (kd, mo, ui, gi, mt, at_, da), su) = false ∧ (su = true ∨ (su = false ∧ (ck == 1) = false ∧ (ck == 0) = false) ∨ (su = false ∧ ck = 0 ∧ (kd == 2) = false))) ∨ (mayCut (ck, pa, tp, (kd, mo, ui, gi, mt, at_, da), su) = true ∧ su = false ∧ (ck = 1 ∨ (ck = 0 ∧ kd = 2))) := by
 unfold mayCut
 cases su with
 | true => exact .inl ⟨rfl, .inl rfl⟩
 | false =>
  by_cases h1 : ck = 1
  ·
   subst h1; exact .inr ⟨rfl, rfl, .inl rfl⟩
  by_cases h0 : ck = 0
  ·
   subst h0
   by_cases h2 : kd = 2
   ·
    subst h2; exact .inr ⟨rfl, rfl, .inr ⟨rfl, rfl⟩⟩
   exact .inl ⟨by simp [h2], .inr (.inr ⟨rfl, rfl, beq_eq_false_iff_ne.2 h2⟩)⟩
  exact .inl ⟨by simp [h1, h0], .inr (.inl ⟨rfl, beq_eq_false_iff_ne.2 h1, beq_eq_false_iff_ne.2 h0⟩)⟩
theorem block11 {w : World} {b : Nat} {t : TypeId} {fr : Nat × Nat} {c : Chg} (h : w.heap[b]? = some (.cells (cellsC c).toArray t fr)) : ∃ y0 y1 y2 y3 y4 y5 y6 y7 y8 y9 y10, (cellsC c).toArray = #[y0, y1, y2, y3, y4, y5, y6, y7, y8, y9, y10] ∧ w.heap[b]? = some (.cells #[y0, y1, y2, y3, y4, y5, y6, y7, y8, y9, y10] t fr) := ⟨_, _, _, _, _, _, _, _, _, _, _, rfl, h⟩
theorem cells11 {w : World} {b : Nat} {y0 y1 y2 y3 y4 y5 y6 y7 y8 y9 y10 : Value} {t : TypeId} {fr : Nat × Nat} (h : w.heap[b]? = some (.cells #[y0, y1, y2, y3, y4, y5, y6, y7, y8, y9, y10] t fr)) : w.cell? ⟨b, 0, none⟩ = some y0 ∧ w.cell? ⟨b, 1, none⟩ = some y1 ∧ w.cell? ⟨b, 2, none⟩ = some y2 ∧ w.cell? ⟨b, 3, none⟩ = some y3 ∧ w.cell? ⟨b, 4, none⟩ = some y4 ∧ w.cell? ⟨b, 5, none⟩ = some y5 ∧ w.cell? ⟨b, 6, none⟩ = some y6 ∧ w.cell? ⟨b, 7, none⟩ = some y7 ∧ w.cell? ⟨b, 8, none⟩ = some y8 ∧ w.cell? ⟨b, 9, none⟩ = some y9 ∧ w.cell? ⟨b, 10, none⟩ = some y10 := ⟨cell_of h 0, cell_of h 1, cell_of h 2, cell_of h 3, cell_of h 4, cell_of h 5, cell_of h 6, cell_of h 7, cell_of h 8, cell_of h 9, cell_of h 10⟩
theorem done_c (W0 : World) (hg0 : Glob W0) (v : Value) (s : List It) (c : Chg) (W : World) (hb0 : Below W0.heap.size W0 W) (h : itemK.R 77 W W0.heap.size (fun _ => True) v s) (hs : s.length ≤ 900000) (hss : PathsP s) (hst : Strict s) (hc : LightC c) :
  Calls Tryz.prog 51 #[v, .agg (cellsC c).toArray] W fun e w' => ∃ v1, e = .returned v1 ∧ RowPost W0.heap.size W w' v v1 (doneP s c) := by
 obtain ⟨ck, pa, tp, ⟨kd, mo, ui, gi, mt, at_, da⟩, su⟩ := c
 exact done_any W0 hg0 v s pa tp kd mo ui gi mt at_ da su W hb0 h hs (fun x hx => by have := hss x hx; omega) hst (by have : pa.size ≤ 9000 := hc.path; omega) (by have : tp.size ≤ 9000 := hc.dest; omega) ck hc.kind
theorem still_fin {b : Nat} {vl vs vq : Value} (W : World) (a1 a2 a6 a4 a5 : Value) : Still W (((((W.setCell ⟨b, 1, none⟩ a1).setCell ⟨b, 2, none⟩ a2).setCell ⟨b, 6, none⟩ a6).setCell ⟨b, 4, none⟩ a4).setCell ⟨b, 5, none⟩ a5) (Owns b vl vs vq) (Owns b vl vs vq) :=
 (still_set W b 1 a1 vl vs vq).trans ((still_set _ b 2 a2 vl vs vq).trans ((still_set _ b 6 a6 vl vs vq).trans ((still_set _ b 4 a4 vl vs vq).trans (still_set _ b 5 a5 vl vs vq))))
set_option maxHeartbeats 8000000 in
set_option maxRecDepth 100000 in
theorem cut_any (ck : Int) (pa tp : ByteArray) (kd mo ui gi mt at_ : Int) (da : ByteArray) (su : Bool) (ct : Int) (W : World) :
  Calls Tryz.prog 50 #[.agg #[.int .i64 ck, .string pa, .string tp, .int .i64 kd, .int .u32 mo, .int .u32 ui, .int .u32 gi, .int .i64 mt, .int .i64 at_, .string da, .bool su], .int .i64 ct] W fun e w' => e = .returned (.agg #[.int .i64 ck, .string pa, .string tp, .int .i64 kd, .int .u32 mo, .int .u32 ui, .int .u32 gi, .int .i64 mt, .int .i64 at_, .string (cutB ct da), .bool su]) ∧ Below W.heap.size W w' := by
 have hci := cut_is ct da
 have hb1 := below_one W (.cells #[.int .i64 ck, .string pa, .string tp, .int .i64 kd, .int .u32 mo, .int .u32 ui, .int .u32 gi, .int .i64 mt, .int .i64 at_, .string (cutB ct da), .bool su] 93)
 have HB2 := Lib.hid (below_next hb1 (below_one (W.alloc (.cells #[.int .i64 ck, .string pa, .string tp, .int .i64 kd, .int .u32 mo, .int .u32 ui, .int .u32 gi, .int .i64 mt, .int .i64 at_, .string (cutB ct da), .bool su] 93)) (.cells #[.int .i64 ck, .string pa, .string tp, .int .i64 kd, .int .u32 mo, .int .u32 ui, .int .u32 gi, .int .i64 mt, .int .i64 at_, .string (cutB ct da), .bool su] 93)))
 have HN := Lib.hid (heap_alloc2_new W (.cells #[.int .i64 ck, .string pa, .string tp, .int .i64 kd, .int .u32 mo, .int .u32 ui, .int .u32 gi, .int .i64 mt, .int .i64 at_, .string (cutB ct da), .bool su] 93) (.cells #[.int .i64 ck, .string pa, .string tp, .int .i64 kd, .int .u32 mo, .int .u32 ui, .int .u32 gi, .int .i64 mt, .int .i64 at_, .string (cutB ct da), .bool su] 93))
 clear hb1
 go_enter Tryz.func50, Tryz.ntmps50
 go_wp2
 refine bodyPost_ret (results_cell_row (ty := 93) rfl _ _ (W.heap.size + 1) _ _ _ _ rfl HN.out Tryz.underlying93 rfl sizeCh) rfl ?_
 exact ⟨rfl, HB2.out⟩
end Go.Proofs.YtibmfjacfbpfgaaGreatDoor.DCrashA
namespace Go.Proofs.YtibmfjacfbpfgaaGreatDoor.DCrash
open Go.RowKit YtibmfjacfbpfgaaGreatDoorW.PrintWords YtibmfjacfbpfgaaGreatDoorW.PrintLast YtibmfjacfbpfgaaGreatDoorW.PrintMore NameLaw NameWalk NameRef NameUse YtibmfjacfbpfgaaGreatDoor.Item Own NodeRes TreeLaw SortIns SortSwap FillLaw DiffLaw RealLaw DoneLaw RealKeep KeepLaw OpLaw OpKeep DkLaw DAt DSmall DRows DDone DWait DState DFlush DSync RDisk ROwnA RCrashL DCrashA
set_option maxHeartbeats 16000000 in
set_option maxRecDepth 100000 in
theorem crash_any (W0 W : World) (b : Nat) (vl vs vq : Value) (d : Dk) (m : Nat) (hP : Prog W0 W b vl vs vq d m) (hm : m ≤ 700000) (kp mk ct : Int) (h0 : 0 ≤ mk) (h64 : mk < 2 ^ 64) :
  Calls Tryz.prog 13 #[.pointer (some ⟨b, 0, none⟩), .agg #[.int .i64 kp, .int .u64 mk, .int .i64 ct]] W fun e w' => e = .returned (.tuple #[]) ∧ ∃ vl1 vs1 vq1, DkAt w' W0.heap.size b vl1 vs1 vq1 (crashD d kp mk ct) ∧ Still W w' (Owns b vl vs vq) (Owns b vl1 vs1 vq1) := by
 obtain ⟨Aq, cq, hvq, hcq0, hCq⟩ := Kd.R_reads hP.at_.rq
 subst hvq
 have HCw := Lib.hid hCq
 have HG0 := Lib.hid hP.glob
 have hlen := hP.bnd.len
 have HLW := Lib.hid hP.bnd.waits
 have hb1 := below_one W (.cells #[.int .i64 kp, .int .u64 mk, .int .i64 ct] 25)
 have HB1 := Lib.hid (below_next hP.low hb1)
 have HD1 := Lib.hid (hP.at_.below hb1)
 have HX1 := Lib.hid (heap_new W (.cells #[.int .i64 kp, .int .u64 mk, .int .i64 ct] 25))
 have HS1 := Lib.hid (Still.below hb1 (Owns b vl vs (.slice Aq d.waits.length cq)))
 have HBX := Lib.hid (show b ≠ W.heap.size from fun e => by have := hP.at_.lt; omega)
 have HP0 : Hid (PathsP d.base) := Lib.hid (right_size (Trees.base hP.trees))
 have HT0 := Lib.hid (right_strict (Trees.base hP.trees))
 obtain ⟨M, hM⟩ : ∃ M : Nat, min (max kp 0) (d.waits.length : Int) = (M : Int) := ⟨(min (max kp 0) (d.waits.length : Int)).toNat, by omega⟩
 have hM1 : M ≤ d.waits.length := by omega
 have hMq : (M : Int) ≤ (cq : Int) := by omega
 have hMn : M ≤ cq := by omega
 obtain ⟨R, hR⟩ : ∃ R, R = crashGo mk ct 0 (d.waits.take (max kp 0).toNat) d.base := ⟨_, rfl⟩
 have HCR := Lib.hid hR
 have HR0 := Lib.hid (show crashGo mk ct 0 ((d.waits.take (max kp 0).toNat).drop 0) d.base = R from hR.symm)
 have hkM : ∀ k : Nat, k < M ↔ ((k : Int) < kp ∧ k < d.waits.length) := fun k => by omega
 obtain ⟨shw, hshw⟩ : ∃ x, x = d.shows := ⟨_, rfl⟩
 obtain ⟨lim, hlim⟩ : ∃ x, x = d.limit := ⟨_, rfl⟩
 obtain ⟨fu, hfu⟩ : ∃ x, x = d.fuse := ⟨_, rfl⟩
 obtain ⟨fa, hfa⟩ : ∃ x, x = d.fail := ⟨_, rfl⟩
 obtain ⟨st, hst⟩ : ∃ x, x = d.steps := ⟨_, rfl⟩
 obtain ⟨off, hoff⟩ : ∃ x, x = d.off := ⟨_, rfl⟩
 have HD1 : Hid (DAt (W.alloc (.cells #[.int .i64 kp, .int .u64 mk, .int .i64 ct] 25)) W0.heap.size b vl vs (.slice Aq d.waits.length cq) d.base shw d.waits lim fu fa st off) := Lib.hid (by rw [hshw, hlim, hfu, hfa, hst, hoff]; exact HD1.out)
 have HLI := Lib.hid hlim
 have HSI := Lib.hid hst
 clear hR hb1 hP hCq hshw hlim hfu hfa hst hoff
 go_enter Tryz.func13, Tryz.ntmps13
 go_wp2
 generalize W.alloc (.cells #[.int .i64 kp, .int .u64 mk, .int .i64 ct] 25) = W1 at *
 obtain ⟨bx, hbx⟩ : ∃ bx, bx = W.heap.size := ⟨_, rfl⟩
 rw [← hbx] at HX1 HBX ⊢
 clear hbx
 have p0 : W1.drew.cell? ⟨b, 2, none⟩ = some (.slice Aq d.waits.length cq) := HD1.out.c2
 have p1 : W1.drew.cell? ⟨bx, 0, none⟩ = some (.int .i64 kp) := (cell_of HX1.out 0).trans rfl
 have HD4 : Hid (DAt W1.drew W0.heap.size b vl vs (.slice Aq d.waits.length cq) d.base shw d.waits lim fu fa st off) := Lib.hid (HD1.out.below (below_drew (Below.refl _ _)))
 have HB4 : Hid (Below W0.heap.size W0 W1.drew) := Lib.hid (below_drew HB1.out)
 have HX4 : Hid (W1.drew.heap[bx]? = some (.cells #[.int .i64 kp, .int .u64 mk, .int .i64 ct] 25 (0, 0))) := Lib.hid HX1.out
 have HS4 : Hid (Still W W1.drew (Owns b vl vs (.slice Aq d.waits.length cq)) (Owns b vl vs (.slice Aq d.waits.length cq))) := Lib.hid (HS1.out.trans (Still.below (below_drew (Below.refl _ _)) _))
 refine start_ (n := 16) (S := fun w' => w'.cell? ⟨b, 2, none⟩ = some (.slice Aq d.waits.length cq) ∧ w'.cell? ⟨bx, 0, none⟩ = some (.int .i64 kp)) (ds := []) (Own.bm 16 0) (by kernel_rfl) rfl rfl ⟨p0, p1⟩ (fun hHeld => ?_)
 generalize W1.drew = W4 at *
 refine pure_ (i := 0) (N := some 9) (v := ?_) (a' := ?_) (Own.bm 16 1) rfl rfl (by kernel_rfl) (fun _ _ _ h => h) (Or.inl ⟨by rfl, ?_⟩) ?_ ?_
 rotate_left;intro w';go_simp;with_reducible rfl;rotate_left;simp only [Act.put, Own.na, Own.nz, Own.ns, i64_w, i32_w];rfl
 refine pure_ (i := 1) (N := some 10) (v := ?_) (a' := ?_) (Own.bm 16 3) rfl rfl (by kernel_rfl) (fun _ _ _ h => h) (Or.inl ⟨by rfl, ?_⟩) ?_ ?_
 rotate_left;intro w';go_simp;with_reducible rfl;rotate_left;simp only [Act.put, Own.na, Own.nz, Own.ns, i64_w, i32_w];rfl
 refine pure_ (i := 2) (N := some 11) (v := ?_) (a' := ?_) (Own.bm 16 7) rfl rfl (by kernel_rfl) (fun _ _ _ h => h) (Or.inl ⟨by rfl, ?_⟩) ?_ ?_
 rotate_left;intro w';go_simp;with_reducible rfl;rotate_left;simp only [Act.put, Own.na, Own.nz, Own.ns, i64_w, i32_w];rfl
 refine pure_ (i := 4) (N := some 13) (v := ?_) (a' := ?_) (Own.bm 16 23) rfl rfl (by kernel_rfl) (fun _ _ _ h => h) (Or.inl ⟨by rfl, ?_⟩) ?_ ?_
 rotate_left;intro w';go_simp;with_reducible rfl;rotate_left;simp only [Act.put, Own.na, Own.nz, Own.ns, i64_w, i32_w];rfl
 refine pure_ (i := 7) (N := some 16) (v := ?_) (a' := ?_) (Own.bm 16 151) rfl rfl (by kernel_rfl) (fun _ _ _ h => h) (Or.inl ⟨by rfl, ?_⟩) ?_ ?_
 rotate_left;intro w';go_simp;with_reducible rfl;rotate_left;simp only [Act.put, Own.na, Own.nz, Own.ns, i64_w, i32_w];rfl
 refine pure_ (i := 8) (N := some 17) (v := ?_) (a' := ?_) (Own.bm 16 407) rfl rfl (by kernel_rfl) (fun _ _ _ h => h) (Or.inl ⟨by rfl, ?_⟩) ?_ ?_
 rotate_left;intro w';go_simp;with_reducible rfl;rotate_left;simp only [Act.put, Own.na, Own.nz, Own.ns, i64_w, i32_w];rfl
 refine pure_ (i := 9) (N := some 18) (v := ?_) (a' := ?_) (Own.bm 16 919) rfl rfl (by kernel_rfl) (fun _ _ _ h => h) (Or.inl ⟨by rfl, ?_⟩) ?_ ?_
 rotate_left;intro w';go_simp;with_reducible rfl;rotate_left;simp only [Act.put, Own.na, Own.nz, Own.ns, i64_w, i32_w];rfl
 refine pure_ (i := 15) (N := some 24) (v := ?_) (a' := ?_) (Own.bm 16 33687) rfl rfl (by kernel_rfl) (fun _ _ _ h => h) (Or.inl ⟨by rfl, ?_⟩) ?_ ?_
 rotate_left;intro w';go_simp;with_reducible rfl;rotate_left;simp only [Act.put, Own.na, Own.nz, Own.ns, i64_w, i32_w];rfl
 refine take_ (i := 3) (N := some 12) (v := ?_) (a' := ?_) (Own.bm 16 33695) rfl rfl (by kernel_rfl) (fun _ _ _ h => h) (Or.inl ⟨by rfl, ?_⟩) hHeld ?_ ?_
 rotate_left;rintro w' ⟨s0, s1⟩;go_simp;with_reducible rfl;rotate_left;simp only [Act.put, Own.na, Own.nz, Own.ns, i64_w, i32_w];rfl
 refine take_ (i := 5) (N := some 14) (v := ?_) (a' := ?_) (Own.bm 16 33727) rfl rfl (by kernel_rfl) (fun _ _ _ h => h) (Or.inl ⟨by rfl, ?_⟩) hHeld ?_ ?_
 rotate_left;rintro w' ⟨s0, s1⟩;go_simp;with_reducible rfl;rotate_left;simp only [Act.put, Own.na, Own.nz, Own.ns, i64_w, i32_w];rfl
 refine pure_ (i := 6) (N := some 15) (v := ?_) (a' := ?_) (Own.bm 16 33791) rfl rfl (by kernel_rfl) (fun _ _ _ h => h) (Or.inl ⟨by rfl, ?_⟩) ?_ ?_
 rotate_left;intro w';go_simp;with_reducible rfl;rotate_left;simp only [Act.put, Own.na, Own.nz, Own.ns, i64_w, i32_w];rfl
 refine take_ (i := 10) (N := some 19) (v := ?_) (a' := ?_) (Own.bm 16 34815) rfl rfl (by kernel_rfl) (fun _ _ _ h => h) (Or.inl ⟨by rfl, ?_⟩) hHeld ?_ ?_
 rotate_left;rintro w' ⟨s0, s1⟩;go_simp;with_reducible rfl;rotate_left;simp only [Act.put, Own.na, Own.nz, Own.ns, i64_w, i32_w];rfl
 refine pure_ (i := 11) (N := some 20) (v := ?_) (a' := ?_) (Own.bm 16 36863) rfl rfl (by kernel_rfl) (fun _ _ _ h => h) (Or.inl ⟨by rfl, ?_⟩) ?_ ?_
 rotate_left;intro w';go_simp;with_reducible rfl;rotate_left;simp only [Act.put, Own.na, Own.nz, Own.ns, i64_w, i32_w];rfl
 refine pure_ (i := 12) (N := some 21) (v := ?_) (a' := ?_) (Own.bm 16 40959) rfl rfl (by kernel_rfl) (fun _ _ _ h => h) (Or.inl ⟨by rfl, ?_⟩) ?_ ?_
 rotate_left;intro w';go_simp;with_reducible rfl;rotate_left;simp only [Act.put, Own.na, Own.nz, Own.ns, i64_w, i32_w];rfl
 refine pure_ (i := 13) (N := some 22) (v := ?_) (a' := ?_) (Own.bm 16 49151) rfl rfl (by kernel_rfl) (fun _ _ _ h => h) (Or.inl ⟨by rfl, ?_⟩) ?_ ?_
 rotate_left;intro w';go_simp;with_reducible rfl;rotate_left;simp only [Act.put, Own.na, Own.nz, Own.ns, i64_w, i32_w];rfl
 refine pure_ (i := 14) (N := some 23) (v := ?_) (a' := ?_) (Own.bm 16 65535) rfl rfl (by kernel_rfl) (fun _ _ _ h => h) (Or.inl ⟨by rfl, ?_⟩) ?_ ?_
 rotate_left;intro w';go_simp;with_reducible rfl;rotate_left;simp only [Act.put, Own.na, Own.nz, Own.ns, i64_w, i32_w];rfl
 refine done_ (by kernel_rfl) ?_

 clear hHeld p0 p1
 go_wp2
 go_loopw [4, 24] (fun nn i wr => ∃ (k nb : Nat) (vl1 : Value) (s : List It), k ≤ M ∧ i = .int .i64 k ∧ nn = .int .i64 nb ∧ nb ≤ k ∧ Hid (crashGo mk ct nb ((d.waits.take (max kp 0).toNat).drop k) s = R) ∧ Hid (DAt wr W0.heap.size b vl1 vs (.slice Aq d.waits.length cq) s shw d.waits lim fu fa st off) ∧ Hid (Below W0.heap.size W0 wr) ∧ Hid (wr.heap[bx]? = some (.cells #[.int .i64 kp, .int .u64 mk, .int .i64 ct] 25 (0, 0))) ∧ Hid (Still W wr (Owns b vl vs (.slice Aq d.waits.length cq)) (Owns b vl1 vs (.slice Aq d.waits.length cq))) ∧ Hid (PathsP s) ∧ Hid (Strict s) ∧ s.length ≤ d.base.length + k) (fun _ i _ => M - (intOf i).toNat)
 case atStart => exact ⟨0, 0, vl, d.base, Nat.zero_le _, rfl, rfl, Nat.le_refl _, HR0, HD4, HB4, HX4, HS4, HP0, HT0, by omega⟩
 clear HD4 HB4 HX4 HD1 HB1 HX1 HS1 HS4 HP0 HT0 HR0
 obtain ⟨k, nb, vl1, s, hk, rfl, rfl, hnb, HE, HD, HB, HX, HS, HPA, HST, hsl⟩ := hrel
 by_cases hlt : k < M
 ·
  have hltI : (k : Int) < (M : Int) := by omega
  obtain ⟨hkp, hkw⟩ := (hkM k).1 hlt
  obtain ⟨A, c, e, _, hC⟩ := Kd.R_reads HD.out.rq
  injection e with i1 i2 i3
  subst i1
  clear i2 i3
  have hget := ch_at hC hkw
  have hlc := HLW.out _ (List.getElem_mem hkw)
  have hta := take_at (kp := kp) hkw hkp
  obtain ⟨Av, cv, hvl⟩ := Kd.R_slice HD.out.rl
  subst hvl
  generalize d.waits[k] = x at hget hlc hta
  obtain ⟨ck, pa, tp, ⟨kd, mo, ui, gi, mt, at_, da⟩, su⟩ := x
  obtain ⟨ad, hAd, hget⟩ := hget
  subst hAd
  have e0 : wr.cell? (ad.add (k * 11)) = some (.int .i64 ck) := hget 0 _ rfl
  have e1 : wr.cell? ⟨(ad.add (k * 11)).block, (ad.add (k * 11)).off + 1, none⟩ = some (.string pa) := hget 1 _ rfl
  have e2 : wr.cell? ⟨(ad.add (k * 11)).block, (ad.add (k * 11)).off + 2, none⟩ = some (.string tp) := hget 2 _ rfl
  have e3 : wr.cell? ⟨(ad.add (k * 11)).block, (ad.add (k * 11)).off + 3, none⟩ = some (.int .i64 kd) := hget 3 _ rfl
  have e4 : wr.cell? ⟨(ad.add (k * 11)).block, (ad.add (k * 11)).off + 4, none⟩ = some (.int .u32 mo) := hget 4 _ rfl
  have e5 : wr.cell? ⟨(ad.add (k * 11)).block, (ad.add (k * 11)).off + 5, none⟩ = some (.int .u32 ui) := hget 5 _ rfl
  have e6 : wr.cell? ⟨(ad.add (k * 11)).block, (ad.add (k * 11)).off + 6, none⟩ = some (.int .u32 gi) := hget 6 _ rfl
  have e7 : wr.cell? ⟨(ad.add (k * 11)).block, (ad.add (k * 11)).off + 7, none⟩ = some (.int .i64 mt) := hget 7 _ rfl
  have e8 : wr.cell? ⟨(ad.add (k * 11)).block, (ad.add (k * 11)).off + 8, none⟩ = some (.int .i64 at_) := hget 8 _ rfl
  have e9 : wr.cell? ⟨(ad.add (k * 11)).block, (ad.add (k * 11)).off + 9, none⟩ = some (.string da) := hget 9 _ rfl
  have e10 : wr.cell? ⟨(ad.add (k * 11)).block, (ad.add (k * 11)).off + 10, none⟩ = some (.bool su) := hget 10 _ rfl
  clear hget hC
  have HLX := Lib.hid hlc
  clear hlc
  have HE1 := HE
  rw [hta] at HE1
  clear HE hta
  have HB5 := Lib.hid (below_one wr (.cells #[.int .i64 ck, .string pa, .string tp, .int .i64 kd, .int .u32 mo, .int .u32 ui, .int .u32 gi, .int .i64 mt, .int .i64 at_, .string da, .bool su] 93))
  have HX5L := Lib.hid (heap_new wr (.cells #[.int .i64 ck, .string pa, .string tp, .int .i64 kd, .int .u32 mo, .int .u32 ui, .int .u32 gi, .int .i64 mt, .int .i64 at_, .string da, .bool su] 93))
  obtain ⟨C, hC⟩ : ∃ C : Chg, C = (ck, pa, tp, (kd, mo, ui, gi, mt, at_, da), su) := ⟨_, rfl⟩
  rw [← hC] at HE1
  have HLC : Hid (LightC C) := Lib.hid (by rw [hC]; exact HLX.out)
  have HX5 : Hid ((wr.alloc (.cells #[.int .i64 ck, .string pa, .string tp, .int .i64 kd, .int .u32 mo, .int .u32 ui, .int .u32 gi, .int .i64 mt, .int .i64 at_, .string da, .bool su] 93)).heap[wr.heap.size]? = some (.cells (cellsC C).toArray 93 (0, 0))) := Lib.hid (by rw [hC]; exact HX5L.out)
  obtain ⟨F, hF⟩ : ∃ F : World → World, F = fun w => (((((((((((w.setCell ⟨wr.heap.size, 0, none⟩ (.int .i64 ck)).setCell ⟨wr.heap.size, 1, none⟩ (.string pa)).setCell ⟨wr.heap.size, 2, none⟩ (.string tp)).setCell ⟨wr.heap.size, 3, none⟩ (.int .i64 kd)).setCell ⟨wr.heap.size, 4, none⟩ (.int .u32 mo)).setCell ⟨wr.heap.size, 5, none⟩ (.int .u32 ui)).setCell ⟨wr.heap.size, 6, none⟩ (.int .u32 gi)).setCell ⟨wr.heap.size, 7, none⟩ (.int .i64 mt)).setCell ⟨wr.heap.size, 8, none⟩ (.int .i64 at_)).setCell ⟨wr.heap.size, 9, none⟩ (.string (cutB ct da))).setCell ⟨wr.heap.size, 10, none⟩ (.bool su)) := ⟨_, rfl⟩
  have HF := Lib.hid hF
  have HFP : Hid (∀ w, w.heap[wr.heap.size]? = some (.cells #[.int .i64 ck, .string pa, .string tp, .int .i64 kd, .int .u32 mo, .int .u32 ui, .int .u32 gi, .int .i64 mt, .int .i64 at_, .string da, .bool su] 93 (0, 0)) → (F w).heap[wr.heap.size]? = some (.cells (cellsC (cutC ct C)).toArray 93 (0, 0))) := Lib.hid (fun w h => by rw [hF, hC]; exact change_put h (.int .i64 ck) (.string pa) (.string tp) (.int .i64 kd) (.int .u32 mo) (.int .u32 ui) (.int .u32 gi) (.int .i64 mt) (.int .i64 at_) (.string (cutB ct da)) (.bool su))
  have HFB : Hid (∀ w, Below wr.heap.size wr w → Below wr.heap.size wr (F w)) := Lib.hid (fun w h => by rw [hF]; exact change_below h (Nat.le_refl _) (Nat.le_refl _) (.int .i64 ck) (.string pa) (.string tp) (.int .i64 kd) (.int .u32 mo) (.int .u32 ui) (.int .u32 gi) (.int .i64 mt) (.int .i64 at_) (.string (cutB ct da)) (.bool su))
  have hmay := may_cases ck pa tp kd mo ui gi mt at_ da su
  rw [← hC] at hmay
  have HXA := Lib.hid ((HB5.out.block bx (Array.getElem?_eq_some_iff.1 HX.out).1).trans HX.out)
  have u1 : (wr.alloc (.cells #[.int .i64 ck, .string pa, .string tp, .int .i64 kd, .int .u32 mo, .int .u32 ui, .int .u32 gi, .int .i64 mt, .int .i64 at_, .string da, .bool su] 93)).cell? ⟨bx, 1, none⟩ = some (.int .u64 mk) := by rw [cell_of HXA.out]; rfl
  have u2 : (wr.alloc (.cells #[.int .i64 ck, .string pa, .string tp, .int .i64 kd, .int .u32 mo, .int .u32 ui, .int .u32 gi, .int .i64 mt, .int .i64 at_, .string da, .bool su] 93)).cell? ⟨bx, 2, none⟩ = some (.int .i64 ct) := by rw [cell_of HXA.out]; rfl
  obtain ⟨W5, hW5⟩ : ∃ W5, W5 = wr.alloc (.cells #[.int .i64 ck, .string pa, .string tp, .int .i64 kd, .int .u32 mo, .int .u32 ui, .int .u32 gi, .int .i64 mt, .int .i64 at_, .string da, .bool su] 93) := ⟨_, rfl⟩
  have HW5 := Lib.hid hW5
  rw [← hW5] at HB5 HX5 HX5L
  clear hC hF hW5 HXA HLX
  rcases hmay with ⟨hm, hor⟩ | ⟨hm, rfl, hor⟩
  ·
   have HEN : Hid (crashGo mk ct nb ((d.waits.take (max kp 0).toNat).drop (k + 1)) (doneP s C) = R) := Lib.hid (crash_keep HE1.out hm)
   have HBA := HB5
   have HK := HX5
   clear HE1 hm HB5 HX5 HX5L u1 u2
   rcases hor with rfl | ⟨rfl, v1, v2⟩ | ⟨rfl, rfl, v3⟩ <;> (
    go_wp2
    rw [← HW5.out]
    clear HW5
    have HD6 : Hid (DAt W5.drew W0.heap.size b _ vs (.slice (some ad) d.waits.length cq) s shw d.waits lim fu fa st off) := Lib.hid (HD.out.below (below_drew HBA.out))
    have HB6 : Hid (Below W0.heap.size W0 W5.drew) := Lib.hid (below_drew (below_next HB.out HBA.out))
    have HS6 : Hid (Still W W5.drew _ _) := Lib.hid (HS.out.trans (Still.below (below_drew HBA.out) _))
    have HX6 : Hid (W5.drew.heap[bx]? = _) := Lib.hid ((HBA.out.block bx (Array.getElem?_eq_some_iff.1 HX.out).1).trans HX.out)
    obtain ⟨y0, y1, y2, y3, y4, y5, y6, y7, y8, y9, y10, hya, hk6⟩ := block11 (show W5.drew.heap[wr.heap.size]? = _ from HK.out)
    have HK6 := Lib.hid hk6
    have HDO := Lib.hid (fun W' hb hr => done_c W0 HG0.out (.slice Av s.length cv) s C W' hb hr (by omega) HPA.out HST.out HLC.out)
    rw [hya] at HDO
    clear HBA HK hya hk6
    generalize wr.heap.size = bc at *
    have p0 := HD6.out.c0
    obtain ⟨p1, p2, p3, p4, p5, p6, p7, p8, p9, p10, p11⟩ := cells11 HK6.out
    refine start_ (n := 10) (S := fun w' => w'.cell? ⟨b, 0, none⟩ = some (.slice Av s.length cv) ∧ w'.cell? ⟨bc, 0, none⟩ = some y0 ∧ w'.cell? ⟨bc, 1, none⟩ = some y1 ∧ w'.cell? ⟨bc, 2, none⟩ = some y2 ∧ w'.cell? ⟨bc, 3, none⟩ = some y3 ∧ w'.cell? ⟨bc, 4, none⟩ = some y4 ∧ w'.cell? ⟨bc, 5, none⟩ = some y5 ∧ w'.cell? ⟨bc, 6, none⟩ = some y6 ∧ w'.cell? ⟨bc, 7, none⟩ = some y7 ∧ w'.cell? ⟨bc, 8, none⟩ = some y8 ∧ w'.cell? ⟨bc, 9, none⟩ = some y9 ∧ w'.cell? ⟨bc, 10, none⟩ = some y10) (ds := [9]) (Own.bm 10 0) (by kernel_rfl) rfl rfl ⟨p0, p1, p2, p3, p4, p5, p6, p7, p8, p9, p10, p11⟩ (fun hHeld => ?_)
    generalize W5.drew = W6 at *
    refine pure_ (i := 0) (N := some 63) (v := ?_) (a' := ?_) (Own.bm 10 1) rfl rfl (by kernel_rfl) (fun _ _ _ h => h) (Or.inl ⟨by rfl, ?_⟩) ?_ ?_
    rotate_left;intro w';go_simp;with_reducible rfl;rotate_left;simp only [Act.put, Own.na, Own.nz, Own.ns, i64_w, i32_w];rfl
    refine pure_ (i := 1) (N := some 64) (v := ?_) (a' := ?_) (Own.bm 10 3) rfl rfl (by kernel_rfl) (fun _ _ _ h => h) (Or.inl ⟨by rfl, ?_⟩) ?_ ?_
    rotate_left;intro w';go_simp;with_reducible rfl;rotate_left;simp only [Act.put, Own.na, Own.nz, Own.ns, i64_w, i32_w];rfl
    refine pure_ (i := 2) (N := some 65) (v := ?_) (a' := ?_) (Own.bm 10 7) rfl rfl (by kernel_rfl) (fun _ _ _ h => h) (Or.inl ⟨by rfl, ?_⟩) ?_ ?_
    rotate_left;intro w';go_simp;with_reducible rfl;rotate_left;simp only [Act.put, Own.na, Own.nz, Own.ns, i64_w, i32_w];rfl
    refine pure_ (i := 3) (N := some 66) (v := ?_) (a' := ?_) (Own.bm 10 15) rfl rfl (by kernel_rfl) (fun _ _ _ h => h) (Or.inl ⟨by rfl, ?_⟩) ?_ ?_
    rotate_left;intro w';go_simp;with_reducible rfl;rotate_left;simp only [Act.put, Own.na, Own.nz, Own.ns, i64_w, i32_w];rfl
    refine take_ (i := 4) (N := some 67) (v := ?_) (a' := ?_) (Own.bm 10 31) rfl rfl (by kernel_rfl) (fun _ _ _ h => h) (Or.inl ⟨by rfl, ?_⟩) hHeld ?_ ?_
    rotate_left;rintro w' ⟨s0, s1, s2, s3, s4, s5, s6, s7, s8, s9, s10, s11⟩;go_simp;with_reducible rfl;rotate_left;simp only [Act.put, Own.na, Own.nz, Own.ns, i64_w, i32_w];rfl
    refine take_ (i := 5) (N := some 68) (v := ?_) (a' := ?_) (Own.bm 10 63) rfl rfl (by kernel_rfl) (fun _ _ _ h => h) (Or.inl ⟨by rfl, ?_⟩) hHeld ?_ ?_
    rotate_left;rintro w' ⟨s0, s1, s2, s3, s4, s5, s6, s7, s8, s9, s10, s11⟩;go_simp;with_reducible rfl;rotate_left;simp only [Act.put, Own.na, Own.nz, Own.ns, i64_w, i32_w];rfl
    refine one_ (i := 6) (N := some 69) (Own.bm 10 127) rfl rfl (by kernel_rfl) (by decide) (fun K hK => ?_)
    refine goes_ Tryz.func51 (by kernel_rfl) rfl #[.slice Av s.length cv, .agg #[y0, y1, y2, y3, y4, y5, y6, y7, y8, y9, y10]] (by rfl) rfl rfl (by simp only [List.map_toArray, List.map_cons, List.map_nil]; rfl) ?_
    with_reducible refine (HDO.out W6 HB6.out (Kd.R_mono HD6.out.rl (fun _ _ => trivial))).mono ?_
    rintro e w7 ⟨v1, rfl, hp7⟩
    refine ⟨_, rfl, ?_⟩
    obtain ⟨A1, c1, hv1⟩ := Kd.R_slice hp7.1
    subst hv1
    have HP7 := Lib.hid hp7
    have hne := Kd.R_ne HD6.out.rl HK6.out (by decide)
    have q0 := cell_grown hp7.2.1 p0 (Kd.R_ne HD6.out.rl HD6.out.blk (by decide))
    have q1 := cell_grown hp7.2.1 p1 hne
    have q2 := cell_grown hp7.2.1 p2 hne
    have q3 := cell_grown hp7.2.1 p3 hne
    have q4 := cell_grown hp7.2.1 p4 hne
    have q5 := cell_grown hp7.2.1 p5 hne
    have q6 := cell_grown hp7.2.1 p6 hne
    have q7 := cell_grown hp7.2.1 p7 hne
    have q8 := cell_grown hp7.2.1 p8 hne
    have q9 := cell_grown hp7.2.1 p9 hne
    have q10 := cell_grown hp7.2.1 p10 hne
    have q11 := cell_grown hp7.2.1 p11 hne
    have z7 : w7.frozen? ⟨b, 0, none⟩ = false := frozen_of ((hp7.2.1.block b HD6.out.lt (Kd.R_ne HD6.out.rl HD6.out.blk (by decide))).trans HD6.out.blk) 0
    have HX7 := Lib.hid ((hp7.2.1.block bx (Array.getElem?_eq_some_iff.1 HX6.out).1 (Kd.R_ne HD6.out.rl HX6.out (by decide))).trans HX6.out)
    have HB7 := Lib.hid (below_grown HB6.out (Nat.le_refl _) hp7.2.1 (fun x hx => by obtain ⟨inner, hown⟩ := Kd.R_own HD6.out.rl; exact own_base hown x hx))
    have HS7 := Lib.hid (HS6.out.trans (still_lasts b _ _ hp7))
    clear hp7 hne
    refine hK.out _ _ ⟨q0, q1, q2, q3, q4, q5, q6, q7, q8, q9, q10, q11⟩ (fun hHeld => ?_)
    clear hK K
    refine norm_ (a' := ?_) ?_ ?_
    rotate_left
    ·
     show Act.put _ (some 69) _ = _
     simp only [Act.put, Own.na, Own.nz, Own.ns, i64_w, i32_w]
     rfl
    refine pure_ (i := 7) (N := some 70) (v := ?_) (a' := ?_) (Own.bm 10 255) rfl rfl (by kernel_rfl) (fun _ _ _ h => h) (Or.inl ⟨by rfl, ?_⟩) ?_ ?_
    rotate_left;intro w';go_simp;with_reducible rfl;rotate_left;simp only [Act.put, Own.na, Own.nz, Own.ns, i64_w, i32_w];rfl
    refine pure_ (i := 8) (N := some 71) (v := ?_) (a' := ?_) (Own.bm 10 511) rfl rfl (by kernel_rfl) (fun _ _ _ h => h) (Or.inl ⟨by rfl, ?_⟩) ?_ ?_
    rotate_left;intro w';go_simp;with_reducible rfl;rotate_left;simp only [Act.put, Own.na, Own.nz, Own.ns, i64_w, i32_w];rfl
    refine last_ (i := 9) (N := none) (Own.bm 10 1023) rfl rfl (by kernel_rfl) (by decide) (fun K hK => ?_)
    refine skip_ (w1 := ?_) (by rfl) rfl ?_ ?_
    rotate_left
    ·
     go_simp
     rfl
    refine hK.out _ _ ?_
    clear hK K
    refine done_ (by kernel_rfl) ?_

    have HD8 := Lib.hid (dlastsP HD6.out HP7.out)
    have HB8 := Lib.hid (below_grown HB7.out (Nat.le_refl _) (set_grown w7 b 0 (.slice A1 (doneP s C).length c1)) (fun x hx => by injection hx with hx; have := HD6.out.nb; omega))
    have HS8 := Lib.hid (HS7.out.trans (still_set w7 b 0 (.slice A1 (doneP s C).length c1) _ _ _))
    have HX8 := Lib.hid (blk_far HX7.out (p := ⟨b, 0, none⟩) (fun e => HBX.out e.symm) (.slice A1 (doneP s C).length c1))
    have HPN := Lib.hid (done_paths HPA.out HLC.out)
    have HSN := Lib.hid (strict_done HST.out C)
    have HLN := Lib.hid (done_len s C)
    clear p0 p1 p2 p3 p4 p5 p6 p7 p8 p9 p10 p11 q0 q1 q2 q3 q4 q5 q6 q7 q8 q9 q10 q11 z7
    go_wp2
    go_roundw
    case rel => exact ⟨k + 1, nb, _, _, by omega, by go_num, by go_num, by omega, HEN, HD8, HB8, HX8, HS8, HPN, HSN, by have := HLN.out; omega⟩
    case measure => simp [intOf]; omega)
  have HMC := Lib.hid hm
  by_cases hcut : nb < 64 ∧ mk / 2 ^ nb % 2 = 1
  ·
   obtain ⟨h64n, hbit⟩ := hcut
   have h64i : (nb : Int) < 64 := by omega
   have h64l : (nb : Int) ≤ 64 := by omega
   have hba := bit_at h0 h64 nb
   have q1 : (mk / 2 ^ nb % 2 == 1) = true := by rw [hbit]; rfl
   have HEN : Hid (crashGo mk ct (nb + 1) ((d.waits.take (max kp 0).toNat).drop (k + 1)) (doneP s (cutC ct C)) = R) := Lib.hid (crash_torn HE1.out HMC.out h0 h64 hbit)
   have HLD := Lib.hid (cut_light HLC.out ct)
   clear hbit HE1 HMC hm
   rcases hor with rfl | ⟨rfl, rfl⟩ <;> (
    go_wp2_with fail
    rw [← HW5.out]
    refine (cut_any _ _ _ _ _ _ _ _ _ _ _ _ _).mono ?_
    rintro e w6 ⟨rfl, hb6⟩
    have HKC := Lib.hid ((hb6.block _ (Array.getElem?_eq_some_iff.1 HX5L.out).1).trans HX5L.out)
    have HBA := Lib.hid (HFB.out w6 (below_next HB5.out hb6))
    have HK := Lib.hid (HFP.out w6 HKC.out)
    obtain ⟨x0, x1, x2, x3, x4, x5, x6, x7, x8, x9, x10⟩ := cells11 HKC.out
    have y := fun j => frozen_of HKC.out j
    clear hb6 HB5 HX5 HX5L HKC HW5 u1 u2
    go_wp2
    have hFw := congrFun HF.out w6
    try dsimp only at hFw
    rw [← hFw]
    clear hFw HF HFB HFP y x0 x1 x2 x3 x4 x5 x6 x7 x8 x9 x10
    generalize F w6 = W5 at *
    have HD6 : Hid (DAt W5.drew W0.heap.size b _ vs (.slice (some ad) d.waits.length cq) s shw d.waits lim fu fa st off) := Lib.hid (HD.out.below (below_drew HBA.out))
    have HB6 : Hid (Below W0.heap.size W0 W5.drew) := Lib.hid (below_drew (below_next HB.out HBA.out))
    have HS6 : Hid (Still W W5.drew _ _) := Lib.hid (HS.out.trans (Still.below (below_drew HBA.out) _))
    have HX6 : Hid (W5.drew.heap[bx]? = _) := Lib.hid ((HBA.out.block bx (Array.getElem?_eq_some_iff.1 HX.out).1).trans HX.out)
    obtain ⟨y0, y1, y2, y3, y4, y5, y6, y7, y8, y9, y10, hya, hk6⟩ := block11 (show W5.drew.heap[wr.heap.size]? = _ from HK.out)
    have HK6 := Lib.hid hk6
    have HDO := Lib.hid (fun W' hb hr => done_c W0 HG0.out (.slice Av s.length cv) s (cutC ct C) W' hb hr (by omega) HPA.out HST.out HLD.out)
    rw [hya] at HDO
    clear HBA HK hya hk6
    generalize wr.heap.size = bc at *
    have p0 := HD6.out.c0
    obtain ⟨p1, p2, p3, p4, p5, p6, p7, p8, p9, p10, p11⟩ := cells11 HK6.out
    refine start_ (n := 10) (S := fun w' => w'.cell? ⟨b, 0, none⟩ = some (.slice Av s.length cv) ∧ w'.cell? ⟨bc, 0, none⟩ = some y0 ∧ w'.cell? ⟨bc, 1, none⟩ = some y1 ∧ w'.cell? ⟨bc, 2, none⟩ = some y2 ∧ w'.cell? ⟨bc, 3, none⟩ = some y3 ∧ w'.cell? ⟨bc, 4, none⟩ = some y4 ∧ w'.cell? ⟨bc, 5, none⟩ = some y5 ∧ w'.cell? ⟨bc, 6, none⟩ = some y6 ∧ w'.cell? ⟨bc, 7, none⟩ = some y7 ∧ w'.cell? ⟨bc, 8, none⟩ = some y8 ∧ w'.cell? ⟨bc, 9, none⟩ = some y9 ∧ w'.cell? ⟨bc, 10, none⟩ = some y10) (ds := [9]) (Own.bm 10 0) (by kernel_rfl) rfl rfl ⟨p0, p1, p2, p3, p4, p5, p6, p7, p8, p9, p10, p11⟩ (fun hHeld => ?_)
    generalize W5.drew = W6 at *
    refine pure_ (i := 0) (N := some 63) (v := ?_) (a' := ?_) (Own.bm 10 1) rfl rfl (by kernel_rfl) (fun _ _ _ h => h) (Or.inl ⟨by rfl, ?_⟩) ?_ ?_
    rotate_left;intro w';go_simp;with_reducible rfl;rotate_left;simp only [Act.put, Own.na, Own.nz, Own.ns, i64_w, i32_w];rfl
    refine pure_ (i := 1) (N := some 64) (v := ?_) (a' := ?_) (Own.bm 10 3) rfl rfl (by kernel_rfl) (fun _ _ _ h => h) (Or.inl ⟨by rfl, ?_⟩) ?_ ?_
    rotate_left;intro w';go_simp;with_reducible rfl;rotate_left;simp only [Act.put, Own.na, Own.nz, Own.ns, i64_w, i32_w];rfl
    refine pure_ (i := 2) (N := some 65) (v := ?_) (a' := ?_) (Own.bm 10 7) rfl rfl (by kernel_rfl) (fun _ _ _ h => h) (Or.inl ⟨by rfl, ?_⟩) ?_ ?_
    rotate_left;intro w';go_simp;with_reducible rfl;rotate_left;simp only [Act.put, Own.na, Own.nz, Own.ns, i64_w, i32_w];rfl
    refine pure_ (i := 3) (N := some 66) (v := ?_) (a' := ?_) (Own.bm 10 15) rfl rfl (by kernel_rfl) (fun _ _ _ h => h) (Or.inl ⟨by rfl, ?_⟩) ?_ ?_
    rotate_left;intro w';go_simp;with_reducible rfl;rotate_left;simp only [Act.put, Own.na, Own.nz, Own.ns, i64_w, i32_w];rfl
    refine take_ (i := 4) (N := some 67) (v := ?_) (a' := ?_) (Own.bm 10 31) rfl rfl (by kernel_rfl) (fun _ _ _ h => h) (Or.inl ⟨by rfl, ?_⟩) hHeld ?_ ?_
    rotate_left;rintro w' ⟨s0, s1, s2, s3, s4, s5, s6, s7, s8, s9, s10, s11⟩;go_simp;with_reducible rfl;rotate_left;simp only [Act.put, Own.na, Own.nz, Own.ns, i64_w, i32_w];rfl
    refine take_ (i := 5) (N := some 68) (v := ?_) (a' := ?_) (Own.bm 10 63) rfl rfl (by kernel_rfl) (fun _ _ _ h => h) (Or.inl ⟨by rfl, ?_⟩) hHeld ?_ ?_
    rotate_left;rintro w' ⟨s0, s1, s2, s3, s4, s5, s6, s7, s8, s9, s10, s11⟩;go_simp;with_reducible rfl;rotate_left;simp only [Act.put, Own.na, Own.nz, Own.ns, i64_w, i32_w];rfl
    refine one_ (i := 6) (N := some 69) (Own.bm 10 127) rfl rfl (by kernel_rfl) (by decide) (fun K hK => ?_)
    refine goes_ Tryz.func51 (by kernel_rfl) rfl #[.slice Av s.length cv, .agg #[y0, y1, y2, y3, y4, y5, y6, y7, y8, y9, y10]] (by rfl) rfl rfl (by simp only [List.map_toArray, List.map_cons, List.map_nil]; rfl) ?_
    with_reducible refine (HDO.out W6 HB6.out (Kd.R_mono HD6.out.rl (fun _ _ => trivial))).mono ?_
    rintro e w7 ⟨v1, rfl, hp7⟩
    refine ⟨_, rfl, ?_⟩
    obtain ⟨A1, c1, hv1⟩ := Kd.R_slice hp7.1
    subst hv1
    have HP7 := Lib.hid hp7
    have hne := Kd.R_ne HD6.out.rl HK6.out (by decide)
    have q0 := cell_grown hp7.2.1 p0 (Kd.R_ne HD6.out.rl HD6.out.blk (by decide))
    have q1 := cell_grown hp7.2.1 p1 hne
    have q2 := cell_grown hp7.2.1 p2 hne
    have q3 := cell_grown hp7.2.1 p3 hne
    have q4 := cell_grown hp7.2.1 p4 hne
    have q5 := cell_grown hp7.2.1 p5 hne
    have q6 := cell_grown hp7.2.1 p6 hne
    have q7 := cell_grown hp7.2.1 p7 hne
    have q8 := cell_grown hp7.2.1 p8 hne
    have q9 := cell_grown hp7.2.1 p9 hne
    have q10 := cell_grown hp7.2.1 p10 hne
    have q11 := cell_grown hp7.2.1 p11 hne
    have z7 : w7.frozen? ⟨b, 0, none⟩ = false := frozen_of ((hp7.2.1.block b HD6.out.lt (Kd.R_ne HD6.out.rl HD6.out.blk (by decide))).trans HD6.out.blk) 0
    have HX7 := Lib.hid ((hp7.2.1.block bx (Array.getElem?_eq_some_iff.1 HX6.out).1 (Kd.R_ne HD6.out.rl HX6.out (by decide))).trans HX6.out)
    have HB7 := Lib.hid (below_grown HB6.out (Nat.le_refl _) hp7.2.1 (fun x hx => by obtain ⟨inner, hown⟩ := Kd.R_own HD6.out.rl; exact own_base hown x hx))
    have HS7 := Lib.hid (HS6.out.trans (still_lasts b _ _ hp7))
    clear hp7 hne
    refine hK.out _ _ ⟨q0, q1, q2, q3, q4, q5, q6, q7, q8, q9, q10, q11⟩ (fun hHeld => ?_)
    clear hK K
    refine norm_ (a' := ?_) ?_ ?_
    rotate_left
    ·
     show Act.put _ (some 69) _ = _
     simp only [Act.put, Own.na, Own.nz, Own.ns, i64_w, i32_w]
     rfl
    refine pure_ (i := 7) (N := some 70) (v := ?_) (a' := ?_) (Own.bm 10 255) rfl rfl (by kernel_rfl) (fun _ _ _ h => h) (Or.inl ⟨by rfl, ?_⟩) ?_ ?_
    rotate_left;intro w';go_simp;with_reducible rfl;rotate_left;simp only [Act.put, Own.na, Own.nz, Own.ns, i64_w, i32_w];rfl
    refine pure_ (i := 8) (N := some 71) (v := ?_) (a' := ?_) (Own.bm 10 511) rfl rfl (by kernel_rfl) (fun _ _ _ h => h) (Or.inl ⟨by rfl, ?_⟩) ?_ ?_
    rotate_left;intro w';go_simp;with_reducible rfl;rotate_left;simp only [Act.put, Own.na, Own.nz, Own.ns, i64_w, i32_w];rfl
    refine last_ (i := 9) (N := none) (Own.bm 10 1023) rfl rfl (by kernel_rfl) (by decide) (fun K hK => ?_)
    refine skip_ (w1 := ?_) (by rfl) rfl ?_ ?_
    rotate_left
    ·
     go_simp
     rfl
    refine hK.out _ _ ?_
    clear hK K
    refine done_ (by kernel_rfl) ?_

    have HD8 := Lib.hid (dlastsP HD6.out HP7.out)
    have HB8 := Lib.hid (below_grown HB7.out (Nat.le_refl _) (set_grown w7 b 0 (.slice A1 (doneP s (cutC ct C)).length c1)) (fun x hx => by injection hx with hx; have := HD6.out.nb; omega))
    have HS8 := Lib.hid (HS7.out.trans (still_set w7 b 0 (.slice A1 (doneP s (cutC ct C)).length c1) _ _ _))
    have HX8 := Lib.hid (blk_far HX7.out (p := ⟨b, 0, none⟩) (fun e => HBX.out e.symm) (.slice A1 (doneP s (cutC ct C)).length c1))
    have HPN := Lib.hid (done_paths HPA.out HLD.out)
    have HSN := Lib.hid (strict_done HST.out (cutC ct C))
    have HLN := Lib.hid (done_len s (cutC ct C))
    clear p0 p1 p2 p3 p4 p5 p6 p7 p8 p9 p10 p11 q0 q1 q2 q3 q4 q5 q6 q7 q8 q9 q10 q11 z7
    go_wp2
    go_roundw
    case rel => exact ⟨k + 1, (nb + 1), _, _, by omega, by go_num, by go_num, by omega, HEN, HD8, HB8, HX8, HS8, HPN, HSN, by have := HLN.out; omega⟩
    case measure => simp [intOf]; omega)
  have hbit : ¬ mk / 2 ^ nb % 2 = 1 := fun e => (Nat.lt_or_ge nb 64).elim (fun o => hcut ⟨o, e⟩) (fun o => no_bit h0 h64 o e)
  have hor2 : ((nb : Int) < 64 ∧ (nb : Int) ≤ 64 ∧ Go.bits .and .u64 (mk / 2 ^ nb) 1 = mk / 2 ^ nb % 2 ∧ (mk / 2 ^ nb % 2 == 1) = false) ∨ ¬ (nb : Int) < 64 := by
   by_cases o : (nb : Int) < 64
   ·
    exact .inl ⟨o, by omega, bit_at h0 h64 nb, beq_eq_false_iff_ne.2 hbit⟩
   exact .inr o
  have HEN : Hid (crashGo mk ct (nb + 1) ((d.waits.take (max kp 0).toNat).drop (k + 1)) (doneP s C) = R) := Lib.hid (crash_full HE1.out HMC.out hbit)
  have HBA := HB5
  have HK := HX5
  clear hbit hcut HE1 HMC hm HB5 HX5 HX5L
  rcases hor2 with ⟨h64i, h64l, hba, q1⟩ | h64i <;> rcases hor with rfl | ⟨rfl, rfl⟩ <;> (
   go_wp2
   rw [← HW5.out]
   clear HW5 u1 u2
   have HD6 : Hid (DAt W5.drew W0.heap.size b _ vs (.slice (some ad) d.waits.length cq) s shw d.waits lim fu fa st off) := Lib.hid (HD.out.below (below_drew HBA.out))
   have HB6 : Hid (Below W0.heap.size W0 W5.drew) := Lib.hid (below_drew (below_next HB.out HBA.out))
   have HS6 : Hid (Still W W5.drew _ _) := Lib.hid (HS.out.trans (Still.below (below_drew HBA.out) _))
   have HX6 : Hid (W5.drew.heap[bx]? = _) := Lib.hid ((HBA.out.block bx (Array.getElem?_eq_some_iff.1 HX.out).1).trans HX.out)
   obtain ⟨y0, y1, y2, y3, y4, y5, y6, y7, y8, y9, y10, hya, hk6⟩ := block11 (show W5.drew.heap[wr.heap.size]? = _ from HK.out)
   have HK6 := Lib.hid hk6
   have HDO := Lib.hid (fun W' hb hr => done_c W0 HG0.out (.slice Av s.length cv) s C W' hb hr (by omega) HPA.out HST.out HLC.out)
   rw [hya] at HDO
   clear HBA HK hya hk6
   generalize wr.heap.size = bc at *
   have p0 := HD6.out.c0
   obtain ⟨p1, p2, p3, p4, p5, p6, p7, p8, p9, p10, p11⟩ := cells11 HK6.out
   refine start_ (n := 10) (S := fun w' => w'.cell? ⟨b, 0, none⟩ = some (.slice Av s.length cv) ∧ w'.cell? ⟨bc, 0, none⟩ = some y0 ∧ w'.cell? ⟨bc, 1, none⟩ = some y1 ∧ w'.cell? ⟨bc, 2, none⟩ = some y2 ∧ w'.cell? ⟨bc, 3, none⟩ = some y3 ∧ w'.cell? ⟨bc, 4, none⟩ = some y4 ∧ w'.cell? ⟨bc, 5, none⟩ = some y5 ∧ w'.cell? ⟨bc, 6, none⟩ = some y6 ∧ w'.cell? ⟨bc, 7, none⟩ = some y7 ∧ w'.cell? ⟨bc, 8, none⟩ = some y8 ∧ w'.cell? ⟨bc, 9, none⟩ = some y9 ∧ w'.cell? ⟨bc, 10, none⟩ = some y10) (ds := [9]) (Own.bm 10 0) (by kernel_rfl) rfl rfl ⟨p0, p1, p2, p3, p4, p5, p6, p7, p8, p9, p10, p11⟩ (fun hHeld => ?_)
   generalize W5.drew = W6 at *
   refine pure_ (i := 0) (N := some 63) (v := ?_) (a' := ?_) (Own.bm 10 1) rfl rfl (by kernel_rfl) (fun _ _ _ h => h) (Or.inl ⟨by rfl, ?_⟩) ?_ ?_
   rotate_left;intro w';go_simp;with_reducible rfl;rotate_left;simp only [Act.put, Own.na, Own.nz, Own.ns, i64_w, i32_w];rfl
   refine pure_ (i := 1) (N := some 64) (v := ?_) (a' := ?_) (Own.bm 10 3) rfl rfl (by kernel_rfl) (fun _ _ _ h => h) (Or.inl ⟨by rfl, ?_⟩) ?_ ?_
   rotate_left;intro w';go_simp;with_reducible rfl;rotate_left;simp only [Act.put, Own.na, Own.nz, Own.ns, i64_w, i32_w];rfl
   refine pure_ (i := 2) (N := some 65) (v := ?_) (a' := ?_) (Own.bm 10 7) rfl rfl (by kernel_rfl) (fun _ _ _ h => h) (Or.inl ⟨by rfl, ?_⟩) ?_ ?_
   rotate_left;intro w';go_simp;with_reducible rfl;rotate_left;simp only [Act.put, Own.na, Own.nz, Own.ns, i64_w, i32_w];rfl
   refine pure_ (i := 3) (N := some 66) (v := ?_) (a' := ?_) (Own.bm 10 15) rfl rfl (by kernel_rfl) (fun _ _ _ h => h) (Or.inl ⟨by rfl, ?_⟩) ?_ ?_
   rotate_left;intro w';go_simp;with_reducible rfl;rotate_left;simp only [Act.put, Own.na, Own.nz, Own.ns, i64_w, i32_w];rfl
   refine take_ (i := 4) (N := some 67) (v := ?_) (a' := ?_) (Own.bm 10 31) rfl rfl (by kernel_rfl) (fun _ _ _ h => h) (Or.inl ⟨by rfl, ?_⟩) hHeld ?_ ?_
   rotate_left;rintro w' ⟨s0, s1, s2, s3, s4, s5, s6, s7, s8, s9, s10, s11⟩;go_simp;with_reducible rfl;rotate_left;simp only [Act.put, Own.na, Own.nz, Own.ns, i64_w, i32_w];rfl
   refine take_ (i := 5) (N := some 68) (v := ?_) (a' := ?_) (Own.bm 10 63) rfl rfl (by kernel_rfl) (fun _ _ _ h => h) (Or.inl ⟨by rfl, ?_⟩) hHeld ?_ ?_
   rotate_left;rintro w' ⟨s0, s1, s2, s3, s4, s5, s6, s7, s8, s9, s10, s11⟩;go_simp;with_reducible rfl;rotate_left;simp only [Act.put, Own.na, Own.nz, Own.ns, i64_w, i32_w];rfl
   refine one_ (i := 6) (N := some 69) (Own.bm 10 127) rfl rfl (by kernel_rfl) (by decide) (fun K hK => ?_)
   refine goes_ Tryz.func51 (by kernel_rfl) rfl #[.slice Av s.length cv, .agg #[y0, y1, y2, y3, y4, y5, y6, y7, y8, y9, y10]] (by rfl) rfl rfl (by simp only [List.map_toArray, List.map_cons, List.map_nil]; rfl) ?_
   with_reducible refine (HDO.out W6 HB6.out (Kd.R_mono HD6.out.rl (fun _ _ => trivial))).mono ?_
   rintro e w7 ⟨v1, rfl, hp7⟩
   refine ⟨_, rfl, ?_⟩
   obtain ⟨A1, c1, hv1⟩ := Kd.R_slice hp7.1
   subst hv1
   have HP7 := Lib.hid hp7
   have hne := Kd.R_ne HD6.out.rl HK6.out (by decide)
   have q0 := cell_grown hp7.2.1 p0 (Kd.R_ne HD6.out.rl HD6.out.blk (by decide))
   have q1 := cell_grown hp7.2.1 p1 hne
   have q2 := cell_grown hp7.2.1 p2 hne
   have q3 := cell_grown hp7.2.1 p3 hne
   have q4 := cell_grown hp7.2.1 p4 hne
   have q5 := cell_grown hp7.2.1 p5 hne
   have q6 := cell_grown hp7.2.1 p6 hne
   have q7 := cell_grown hp7.2.1 p7 hne
   have q8 := cell_grown hp7.2.1 p8 hne
   have q9 := cell_grown hp7.2.1 p9 hne
   have q10 := cell_grown hp7.2.1 p10 hne
   have q11 := cell_grown hp7.2.1 p11 hne
   have z7 : w7.frozen? ⟨b, 0, none⟩ = false := frozen_of ((hp7.2.1.block b HD6.out.lt (Kd.R_ne HD6.out.rl HD6.out.blk (by decide))).trans HD6.out.blk) 0
   have HX7 := Lib.hid ((hp7.2.1.block bx (Array.getElem?_eq_some_iff.1 HX6.out).1 (Kd.R_ne HD6.out.rl HX6.out (by decide))).trans HX6.out)
   have HB7 := Lib.hid (below_grown HB6.out (Nat.le_refl _) hp7.2.1 (fun x hx => by obtain ⟨inner, hown⟩ := Kd.R_own HD6.out.rl; exact own_base hown x hx))
   have HS7 := Lib.hid (HS6.out.trans (still_lasts b _ _ hp7))
   clear hp7 hne
   refine hK.out _ _ ⟨q0, q1, q2, q3, q4, q5, q6, q7, q8, q9, q10, q11⟩ (fun hHeld => ?_)
   clear hK K
   refine norm_ (a' := ?_) ?_ ?_
   rotate_left
   ·
    show Act.put _ (some 69) _ = _
    simp only [Act.put, Own.na, Own.nz, Own.ns, i64_w, i32_w]
    rfl
   refine pure_ (i := 7) (N := some 70) (v := ?_) (a' := ?_) (Own.bm 10 255) rfl rfl (by kernel_rfl) (fun _ _ _ h => h) (Or.inl ⟨by rfl, ?_⟩) ?_ ?_
   rotate_left;intro w';go_simp;with_reducible rfl;rotate_left;simp only [Act.put, Own.na, Own.nz, Own.ns, i64_w, i32_w];rfl
   refine pure_ (i := 8) (N := some 71) (v := ?_) (a' := ?_) (Own.bm 10 511) rfl rfl (by kernel_rfl) (fun _ _ _ h => h) (Or.inl ⟨by rfl, ?_⟩) ?_ ?_
   rotate_left;intro w';go_simp;with_reducible rfl;rotate_left;simp only [Act.put, Own.na, Own.nz, Own.ns, i64_w, i32_w];rfl
   refine last_ (i := 9) (N := none) (Own.bm 10 1023) rfl rfl (by kernel_rfl) (by decide) (fun K hK => ?_)
   refine skip_ (w1 := ?_) (by rfl) rfl ?_ ?_
   rotate_left
   ·
    go_simp
    rfl
   refine hK.out _ _ ?_
   clear hK K
   refine done_ (by kernel_rfl) ?_

   have HD8 := Lib.hid (dlastsP HD6.out HP7.out)
   have HB8 := Lib.hid (below_grown HB7.out (Nat.le_refl _) (set_grown w7 b 0 (.slice A1 (doneP s C).length c1)) (fun x hx => by injection hx with hx; have := HD6.out.nb; omega))
   have HS8 := Lib.hid (HS7.out.trans (still_set w7 b 0 (.slice A1 (doneP s C).length c1) _ _ _))
   have HX8 := Lib.hid (blk_far HX7.out (p := ⟨b, 0, none⟩) (fun e => HBX.out e.symm) (.slice A1 (doneP s C).length c1))
   have HPN := Lib.hid (done_paths HPA.out HLC.out)
   have HSN := Lib.hid (strict_done HST.out C)
   have HLN := Lib.hid (done_len s C)
   clear p0 p1 p2 p3 p4 p5 p6 p7 p8 p9 p10 p11 q0 q1 q2 q3 q4 q5 q6 q7 q8 q9 q10 q11 z7
   go_wp2
   go_roundw
   case rel => exact ⟨k + 1, (nb + 1), _, _, by omega, by go_num, by go_num, by omega, HEN, HD8, HB8, HX8, HS8, HPN, HSN, by have := HLN.out; omega⟩
   case measure => simp [intOf]; omega)
 have hje : k = M := by omega
 have hj2 : ¬ (k : Int) < (M : Int) := by omega
 have hsl2 : s.length ≤ 1000000 := by omega
 have HES : Hid (s = crashGo mk ct 0 (d.waits.take (max kp 0).toNat) d.base) := Lib.hid (by have h := HE.out; rw [take_end (by omega)] at h; rw [← HCR.out]; exact h)
 clear HE
 obtain ⟨Av, cv, hv, _, hC⟩ := Kd.R_reads HD.out.rl
 subst hv
 have HCL := Lib.hid (tclone_any s Av cv wr hC hsl2)
 have f0 := HD.out.c0
 clear hC
 go_wp2_with fail
 refine HCL.out.mono ?_
 rintro e w7 ⟨v7, rfl, hr7, hb7⟩
 obtain ⟨A7, c7, hv7⟩ := Kd.R_slice hr7
 subst hv7
 have HD7 := Lib.hid (dshowsN HD.out hb7 HB.out.size hr7)
 have HD8 := Lib.hid (dwaits HD7.out (Kd.R_nil chK 93 _ W0.heap.size (fun _ => True)) (grown_refl _ _))
 have HD9 := Lib.hid (HD8.out.put 6 (.bool false) (off' := false) rfl)
 have HD10 := Lib.hid (HD9.out.put 4 (.int .i64 (-1)) (fu' := -1) rfl)
 have HD11 := Lib.hid (HD10.out.put 5 (.int .i64 0) (fa' := 0) rfl)
 have k7 := HD.out.below hb7
 have g1 := k7.c1
 have y1 := k7.fz 1
 have g2 := HD7.out.c2
 have y2 := HD7.out.fz 2
 have g6 := HD8.out.c6
 have y6 := HD8.out.fz 6
 have g4 := HD9.out.c4
 have y4 := HD9.out.fz 4
 have g5 := HD10.out.c5
 have y5 := HD10.out.fz 5
 have HSF := Lib.hid ((HS.out.trans (Still.below hb7 _)).trans (still_fin (b := b) (vl := .slice Av s.length cv) (vs := vs) (vq := .slice Aq d.waits.length cq) w7 (.slice A7 s.length c7) (.slice none 0 0) (.bool false) (.int .i64 (-1)) (.int .i64 0)))
 have HO7 := Lib.hid (Kd.R_base hr7)
 clear k7 hr7 hb7 HCL f0
 go_wp2
 go_end0
 refine ⟨rfl, .slice Av s.length cv, .slice A7 s.length c7, .slice none 0 0, ?_, ?_⟩
 ·
  have h := HD11.out
  rw [HLI.out, HSI.out] at h
  unfold crashD
  rw [← HES.out]
  exact h
 refine ⟨HSF.out.os, HSF.out.tape, HSF.out.output, HSF.out.size, HSF.out.block, fun k hk => ?_⟩
 rcases hk with e | e | e | e
 ·
  exact .inl (.inl e)
 ·
  exact (HS.out.own k (.inr (.inl e)))
 ·
  exact .inr (Nat.le_trans HS.out.size (HO7.out k e))
 cases e
end Go.Proofs.YtibmfjacfbpfgaaGreatDoor.DCrash
