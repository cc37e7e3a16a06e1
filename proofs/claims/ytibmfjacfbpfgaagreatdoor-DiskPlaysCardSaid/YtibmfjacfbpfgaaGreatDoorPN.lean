import Derived.Test.YtibmfjacfbpfgaaGreatDoorProg
import Derived.Below
import Derived.Deep.Draws
import Derived.Deep.AppendLies
import Derived.Maps.AppendAt
import Derived.OwnWalk
import Derived.Laws.BytesArg
import Derived.Laws.MakeOwn
import Derived.Laws.OwnMore
import Derived.Deep.OwnRows
import Derived.Tactics
import Derived.Lib.ConvBytes
import Derived.Laws.Slices
import Derived.WalkKit
import Derived.KernelRfl
import Derived.RowKit3
import Derived.Deep.LoopGhost
import Derived.Deep.QuietTactic
import Derived.BigQuiet
import Derived.WideLaws
import Derived.Deep.DeepCutAuto
import Derived.Deep.CutBlock
import Derived.Deep.RegionHeld3
import Derived.Laws.Rows
import Derived.Lib.AppendStr
import Derived.ArgAppend
import Derived.Laws.IdiomCopy
import Derived.OrdersHeld
import Derived.Laws.BitsLemmas
import Derived.RowKit
import Derived.Test.YtibmfjacfbpfgaaGreatDoorPW
set_option maxHeartbeats 32000000
set_option maxRecDepth 100000
namespace Go.Proofs.YtibmfjacfbpfgaaGreatDoor.PNm
open Go.RowKit YtibmfjacfbpfgaaGreatDoorW PrintWords PrintLast PrintMore
attribute [local go_sem] max2_int min2_int max_two min_two max_three min_three max_four min_four   -- for this text's walks alone
set_option linter.unusedVariables false
set_option linter.unusedSimpArgs false
def errW : Option Int → Value
 | none => .nilIface
 | some c => .iface 0 (.int .i64 c)
theorem errW_none : errW none = .nilIface := rfl
theorem errW_some (c : Int) : errW (some c) = .iface 0 (.int .i64 c) := rfl
theorem info9 : (Tryz.prog.info? 9).map (fun i => (i.zero, i.size, i.bytes)) = some (some (.string ⟨#[]⟩), 1, 16) := by kernel_rfl
-- the values' own types
end Go.Proofs.YtibmfjacfbpfgaaGreatDoor.PNm
namespace Go.Proofs.YtibmfjacfbpfgaaGreatDoor.PNm
open Go.RowKit YtibmfjacfbpfgaaGreatDoorW PrintWords PrintLast PrintMore
attribute [local go_sem] max2_int min2_int max_two min_two max_three min_three max_four min_four   -- for this text's walks alone
/-! ### r_Parts: function 73 -/
def r_Parts.l0 : Nat → ByteArray → List ByteArray → ByteArray → Int → Option (List ByteArray)
 | 0, _, _, _, _ => none
 | k + 1, x0, x3, x4, x5 => if x5 < (x0.size : Int) then (if 0 ≤ x5 then (if (bt x0 x5) = 47 then (if x3.length < 8796093022208 then (r_Parts.l0 k x0 (x3 ++ [x4]) (⟨#[]⟩ : ByteArray) (wrap64 (x5 + 1))) else (none)) else (if x5 ≤ (wrap64 (x5 + 1)) then (if (wrap64 (x5 + 1)) ≤ (x0.size : Int) then (if x4.size + (x0.extract (x5 : Int).toNat ((wrap64 (x5 + 1)) : Int).toNat).size ≤ 9223372036854775807 then (r_Parts.l0 k x0 x3 (x4 ++ (x0.extract (x5 : Int).toNat ((wrap64 (x5 + 1)) : Int).toNat)) (wrap64 (x5 + 1))) else (none)) else (none)) else (none))) else (none)) else (if x3.length < 8796093022208 then (some (x3 ++ [x4])) else (none))
def r_Parts.f (k : Nat) (a0 : ByteArray) : Option (List ByteArray) := if (a0.size : Int) = 0 then (some ([] : List ByteArray)) else (r_Parts.l0 k a0 ([] : List ByteArray) (⟨#[]⟩ : ByteArray) 0)
theorem r_Parts.mono_l : ∀ k, (∀ y0 y1 y2 y3, LeO (r_Parts.l0 k y0 y1 y2 y3) (r_Parts.l0 (k + 1) y0 y1 y2 y3))
 | 0 => fun _ _ _ _ r h => by simp [r_Parts.l0] at h
 | k + 1 => by
  have ih0 := r_Parts.mono_l k
  ·
   intro y0 y1 y2 y3;unfold r_Parts.l0
   repeat' first
   | (with_reducible exact ih0 _ _ _ _)
   | (with_reducible exact LeO.refl _)
   | (with_reducible exact LeO.none _)
   | (with_reducible refine LeO.ite ?_ ?_)
   | (with_reducible refine LeO.bind ?_ (fun _ => ?_))
   | exact ih0 _ _ _ _
   | exact LeO.none _
   | refine LeO.ite ?_ ?_
   | refine LeO.bind ?_ (fun _ => ?_)
theorem r_Parts.mono : ∀ a0 k, LeO (r_Parts.f k a0) (r_Parts.f (k + 1) a0) := by
 intro a0 k;have ih0 := r_Parts.mono_l k;unfold r_Parts.f
 repeat' first
   | (with_reducible exact ih0 _ _ _ _)
   | (with_reducible exact LeO.refl _)
   | (with_reducible exact LeO.none _)
   | (with_reducible refine LeO.ite ?_ ?_)
   | (with_reducible refine LeO.bind ?_ (fun _ => ?_))
   | exact ih0 _ _ _ _
   | exact LeO.none _
   | refine LeO.ite ?_ ?_
   | refine LeO.bind ?_ (fun _ => ?_)
theorem r_Parts.calls (k : Nat) (a0 : ByteArray) (r : List ByteArray) (w : World) (h : r_Parts.f k a0 = some r) :
  Calls Tryz.prog 73 #[.string a0] w fun e w' => ∃ v0_ : Value, e = .returned (v0_) ∧ Kd.R Kd.string 9 w' w.heap.size (fun _ => True) v0_ r ∧ Below w.heap.size w w' := by
 have HB := Aside0.mk (Below.refl w.heap.size w);have H : (if (a0.size : Int) = 0 then (some ([] : List ByteArray)) else (r_Parts.l0 k a0 ([] : List ByteArray) (⟨#[]⟩ : ByteArray) 0)) = some r := h;clear h
 by_cases c2 : (a0.size : Int) = 0
 ·
  rw [if_pos c2] at H;have c2b0 : ((a0.size : Int) == 0) = true := beq_iff_eq.mpr c2;have c2b1 : ((a0.size : Int) != 0) = false := bne_eq_false_iff_eq.mpr c2;clear c2;obtain rfl := Option.some.inj H;go_enter Tryz.func73, Tryz.ntmps73;go_wp2;go_ret
  exact ⟨_, by first | rfl | (simp [errW_none, errW_some] <;> rfl) | (simp [*, errW_none, errW_some] <;> rfl), by first | exact Kd.R_nil _ _ _ _ _ | exact Kd.N_nil _ _ _ _ _ | exact Kd.V_nil _ _ _ _ _ | exact Kd.Q_nil _ _ _ _ _ | exact Kd.S_nil _ _ _ _ _, by repeat (first | (with_reducible first | exact HB.out | apply below_alloc | apply pw_below_drewN | apply below_drew1) | exact HB.out)⟩
 rw [if_neg c2] at H;have c2b0 : ((a0.size : Int) == 0) = false := beq_eq_false_iff_ne.mpr c2;have c2b1 : ((a0.size : Int) != 0) = true := bne_iff_ne.mpr c2;have H' := Aside0.mk H;clear H;go_enter Tryz.func73, Tryz.ntmps73;go_wp2
 go_loopg [3, 4, 5] k (fun kq v3 v4 v5 w' => ∃ (x3_1 : List ByteArray) (x4_1 : ByteArray) (x5_1 : Int), v4 = .string x4_1 ∧ v5 = .int .i64 x5_1 ∧ Aside0 (r_Parts.l0 kq a0 x3_1 x4_1 x5_1 = some r) ∧ Aside0 (kq ≤ k) ∧ Aside0 (Kd.R Kd.string 9 w' w.heap.size (fun _ => True) v3 x3_1) ∧ Aside0 (Below w.heap.size w w'))
 case atStart => exact ⟨(([] : List ByteArray)), ((⟨#[]⟩ : ByteArray)), (0), (by first | rfl | (simp; done) | (simp [*]; done)), (by first | rfl | (simp; done) | (simp [*]; done)), H', ⟨Nat.le_refl _⟩, ⟨by first | exact Kd.R_nil _ _ _ _ _ | exact Kd.N_nil _ _ _ _ _ | exact Kd.V_nil _ _ _ _ _ | exact Kd.Q_nil _ _ _ _ _ | exact Kd.S_nil _ _ _ _ _⟩, ⟨by repeat (first | (with_reducible first | exact HB.out | apply below_alloc | apply pw_below_drewN | apply below_drew1) | exact HB.out)⟩⟩
 clear H';obtain ⟨x3_1, x4_1, x5_1, rfl, rfl, HA, HK1, HO_3, HB⟩ := hrel
 cases gk with
 | zero => exact absurd HA.out (by simp [r_Parts.l0])
 | succ k1 =>
  have H := HA.out;clear HA;simp only [r_Parts.l0] at H
  by_cases c3 : x5_1 < (a0.size : Int)
  ·
   rw [if_pos c3] at H;have c3b0 : decide (x5_1 < (a0.size : Int)) = true := decide_eq_true c3;clear c3
   by_cases c4 : 0 ≤ x5_1
   ·
    rw [if_pos c4] at H;have c4b0 : decide (0 ≤ x5_1) = true := decide_eq_true c4;clear c4
    by_cases c6 : (bt a0 x5_1) = 47
    ·
     rw [if_pos c6] at H;have c6b0 : ((bt a0 x5_1) == 47) = true := beq_iff_eq.mpr c6;have c6b1 : ((bt a0 x5_1) != 47) = false := bne_eq_false_iff_eq.mpr c6;clear c6
     by_cases c7 : x3_1.length < 8796093022208
     ·
      rw [if_pos c7] at H;have LMc7 := Aside0.mk c7;clear c7;obtain ⟨y101, hy101⟩ : ∃ y_ : List ByteArray, y_ = (x3_1 ++ [x4_1]) := ⟨_, rfl⟩;replace H : (r_Parts.l0 k1 a0 y101 (⟨#[]⟩ : ByteArray) (wrap64 (x5_1 + 1))) = some r := by first | (rw [hy101]; with_reducible exact H) | (have H2_ := (Option.bind_some _ _).symm.trans H; rw [hy101]; with_reducible exact H2_) | (have H2_ := (Option.bind_some _ _).symm.trans H; with_reducible exact H2_) | with_reducible exact H | (rw [hy101]; exact H) | exact H
      have Ny101 := Aside0.mk hy101;clear hy101;have H' := Aside0.mk H;clear H;have p5 : 0 ≤ (x5_1 : Int) := of_decide_eq_true (by first | (with_reducible assumption) | assumption);have q5 : x5_1 < (a0.size : Int) := of_decide_eq_true (by first | (with_reducible assumption) | assumption);have hx5 := bt_at a0 x5_1;replace p5 := eq_true p5;replace q5 := eq_true q5
      go_wp2_with (first | ((with_reducible refine gate_builtin (b := .append) (xs := #[.tmp 19, .tmp 21]) rfl ?_); at_builtin; refine Kd.R_append Kd.string (w0 := w) w.heap.size rfl (.tmp 19) (.tmp 21) 61 9 (.string ⟨#[]⟩) 16 rfl Tryz.underlying61 info9 rfl (by decide) (by omega) u3 x3_1 x4_1 [.string x4_1] (fun _ => True) (fun _ => False) rfl rfl ?aP (fun _ hk => hk.elim) ?aF ?aO ?aB ?aS ?aL ?_; (case aP => exact rfl); (case aB => exact (by repeat (first | (with_reducible first | exact HB.out | apply below_alloc | apply pw_below_drewN | apply below_drew1) | exact HB.out))); (case aF => exact (fun _ _ => trivial)); (case aO => exact (by (with_reducible repeat (first | apply Kd.R_alloc | apply Kd.R_drewN | apply Kd.R_drew)); exact HO_3.out)); (case aS => exact (below_size (by repeat (first | (with_reducible first | exact HB.out | apply below_alloc | apply pw_below_drewN | apply below_drew1) | exact HB.out)))); (case aL => have := LMc7.out; omega); intro v102 w8 ho hb hg hat; rw [← Ny101.out] at ho; have n0_ := Aside0.mk (hb); have n1_ := Aside0.mk (ho); clear HB; clear HO_3; have HB := n0_; have HO103 := n1_; clear n0_ n1_; clear ho hb hg hat))
      go_roundg k1
      case measure => have := HK1.out; omega
      case rel => exact ⟨(y101), ((⟨#[]⟩ : ByteArray)), (wrap64 (x5_1 + 1)), (by first | rfl | (simp; done) | (simp [*]; done)), (by first | rfl | (simp; done) | (simp [*]; done)), H', ⟨by have := HK1.out; omega⟩, ⟨by (with_reducible repeat (first | apply Kd.R_alloc | apply Kd.R_drewN | apply Kd.R_drew)); exact HO103.out⟩, ⟨by repeat (first | (with_reducible first | exact HB.out | apply below_alloc | apply pw_below_drewN | apply below_drew1) | exact HB.out)⟩⟩
     rw [if_neg c7] at H;exact absurd H (by simp)
    rw [if_neg c6] at H;have c6b0 : ((bt a0 x5_1) == 47) = false := beq_eq_false_iff_ne.mpr c6;have c6b1 : ((bt a0 x5_1) != 47) = true := bne_iff_ne.mpr c6;have c9b0 := eq_true (of_decide_eq_true (by first | (with_reducible assumption) | assumption) : 0 ≤ x5_1)
    by_cases c10 : x5_1 ≤ (wrap64 (x5_1 + 1))
    ·
     rw [if_pos c10] at H;have c10b0 := eq_true c10;have c10b1 : decide (x5_1 ≤ (wrap64 (x5_1 + 1))) = true := decide_eq_true c10
     by_cases c11 : (wrap64 (x5_1 + 1)) ≤ (a0.size : Int)
     ·
      rw [if_pos c11] at H;have c11b0 := eq_true c11;have c11b1 : decide ((wrap64 (x5_1 + 1)) ≤ (a0.size : Int)) = true := decide_eq_true c11
      by_cases c12 : x4_1.size + (a0.extract (x5_1 : Int).toNat ((wrap64 (x5_1 + 1)) : Int).toNat).size ≤ 9223372036854775807
      ·
       rw [if_pos c12] at H;have c12b0 := eq_true c12;have c12b1 : decide (x4_1.size + (a0.extract (x5_1 : Int).toNat ((wrap64 (x5_1 + 1)) : Int).toNat).size ≤ 9223372036854775807) = true := decide_eq_true c12;try have c12b2 : (9223372036854775807 < x4_1.size + (a0.extract (x5_1 : Int).toNat ((wrap64 (x5_1 + 1)) : Int).toNat).size) = False := eq_false (Nat.not_lt.2 c12);have H' := Aside0.mk H;clear H;have p5 : 0 ≤ (x5_1 : Int) := of_decide_eq_true (by first | (with_reducible assumption) | assumption);have q5 : x5_1 < (a0.size : Int) := of_decide_eq_true (by first | (with_reducible assumption) | assumption);have hx5 := bt_at a0 x5_1;replace p5 := eq_true p5;replace q5 := eq_true q5;go_wp2
       go_roundg k1
       case measure => have := HK1.out; omega
       case rel => exact ⟨(x3_1), (x4_1 ++ (a0.extract (x5_1 : Int).toNat ((wrap64 (x5_1 + 1)) : Int).toNat)), (wrap64 (x5_1 + 1)), (by first | rfl | (simp; done) | (simp [*]; done)), (by first | rfl | (simp; done) | (simp [*]; done)), H', ⟨by have := HK1.out; omega⟩, ⟨by (with_reducible repeat (first | apply Kd.R_alloc | apply Kd.R_drewN | apply Kd.R_drew)); exact HO_3.out⟩, ⟨by repeat (first | (with_reducible first | exact HB.out | apply below_alloc | apply pw_below_drewN | apply below_drew1) | exact HB.out)⟩⟩
      rw [if_neg c12] at H;exact absurd H (by simp)
     rw [if_neg c11] at H;exact absurd H (by simp)
    rw [if_neg c10] at H;exact absurd H (by simp)
   rw [if_neg c4] at H;exact absurd H (by simp)
  rw [if_neg c3] at H;have c3b0 : decide (x5_1 < (a0.size : Int)) = false := decide_eq_false c3;clear c3
  by_cases c13 : x3_1.length < 8796093022208
  ·
   rw [if_pos c13] at H;have LMc13 := Aside0.mk c13;clear c13;obtain ⟨y104, hy104⟩ : ∃ y_ : List ByteArray, y_ = (x3_1 ++ [x4_1]) := ⟨_, rfl⟩;replace H : (some y104) = some r := by first | (rw [hy104]; with_reducible exact H) | (have H2_ := (Option.bind_some _ _).symm.trans H; rw [hy104]; with_reducible exact H2_) | (have H2_ := (Option.bind_some _ _).symm.trans H; with_reducible exact H2_) | with_reducible exact H | (rw [hy104]; exact H) | exact H
   have Ny104 := Aside0.mk hy104;clear hy104;obtain rfl := Option.some.inj H
   go_wp2_with (first | ((with_reducible refine gate_builtin (b := .append) (xs := #[.tmp 30, .tmp 32]) rfl ?_); at_builtin; refine Kd.R_append Kd.string (w0 := w) w.heap.size rfl (.tmp 30) (.tmp 32) 61 9 (.string ⟨#[]⟩) 16 rfl Tryz.underlying61 info9 rfl (by decide) (by omega) u3 x3_1 x4_1 [.string x4_1] (fun _ => True) (fun _ => False) rfl rfl ?aP (fun _ hk => hk.elim) ?aF ?aO ?aB ?aS ?aL ?_; (case aP => exact rfl); (case aB => exact (by repeat (first | (with_reducible first | exact HB.out | apply below_alloc | apply pw_below_drewN | apply below_drew1) | exact HB.out))); (case aF => exact (fun _ _ => trivial)); (case aO => exact (by (with_reducible repeat (first | apply Kd.R_alloc | apply Kd.R_drewN | apply Kd.R_drew)); exact HO_3.out)); (case aS => exact (below_size (by repeat (first | (with_reducible first | exact HB.out | apply below_alloc | apply pw_below_drewN | apply below_drew1) | exact HB.out)))); (case aL => have := LMc13.out; omega); intro v105 w14 ho hb hg hat; rw [← Ny104.out] at ho; have n0_ := Aside0.mk (hb); have n1_ := Aside0.mk (ho); clear HB; clear HO_3; have HB := n0_; have HO106 := n1_; clear n0_ n1_; clear ho hb hg hat))
   go_ret
   exact ⟨_, by first | rfl | (simp [errW_none, errW_some] <;> rfl) | (simp [*, errW_none, errW_some] <;> rfl), by (with_reducible repeat (first | apply Kd.R_alloc | apply Kd.R_drewN | apply Kd.R_drew)); exact HO106.out, by repeat (first | (with_reducible first | exact HB.out | apply below_alloc | apply pw_below_drewN | apply below_drew1) | exact HB.out)⟩
  rw [if_neg c13] at H;exact absurd H (by simp)
end Go.Proofs.YtibmfjacfbpfgaaGreatDoor.PNm
namespace Go.Proofs.YtibmfjacfbpfgaaGreatDoor.PNm
open Go.RowKit YtibmfjacfbpfgaaGreatDoorW PrintWords PrintLast PrintMore
attribute [local go_sem] max2_int min2_int max_two min_two max_three min_three max_four min_four   -- for this text's walks alone
mutual
def r_less.l0 : Nat → ByteArray → ByteArray → Int → Option (Int)
 | 0, _, _, _ => none
 | k + 1, x0, x1, x5 => if x5 < (x0.size : Int) then (r_less.j1 k x0 x1 x5 (decide (x5 < (x1.size : Int)))) else (r_less.j1 k x0 x1 x5 false)
def r_less.j1 : Nat → ByteArray → ByteArray → Int → Bool → Option (Int)
 | 0, _, _, _, _ => none
 | k + 1, x0, x1, x5, x15 => if x15 = true then (if 0 ≤ x5 then (if x5 < (x0.size : Int) then (if x5 < (x1.size : Int) then (if (bt x0 x5) < (bt x1 x5) then (some (-1)) else (if (bt x0 x5) > (bt x1 x5) then (some 1) else (r_less.l0 k x0 x1 (wrap64 (x5 + 1))))) else (none)) else (none)) else (none)) else (if (x0.size : Int) < (x1.size : Int) then (some (-1)) else (if (x0.size : Int) > (x1.size : Int) then (some 1) else (some 0)))
end
def r_less.f (k : Nat) (a0 : ByteArray) (a1 : ByteArray) : Option (Int) := r_less.l0 k a0 a1 0
theorem r_less.mono_l : ∀ k, (∀ y0 y1 y2, LeO (r_less.l0 k y0 y1 y2) (r_less.l0 (k + 1) y0 y1 y2)) ∧ (∀ y0 y1 y2 y3, LeO (r_less.j1 k y0 y1 y2 y3) (r_less.j1 (k + 1) y0 y1 y2 y3))
 | 0 => ⟨fun _ _ _ r h => by simp [r_less.l0] at h, fun _ _ _ _ r h => by simp [r_less.j1] at h⟩
 | k + 1 => by
  obtain ⟨ih0, ih1⟩ := r_less.mono_l k;refine ⟨?_, ?_⟩
  all_goals
   intros
   first
   | unfold r_less.l0
   | unfold r_less.j1
   repeat' first
   | (with_reducible exact ih0 _ _ _)
   | (with_reducible exact ih1 _ _ _ _)
   | (with_reducible exact LeO.refl _)
   | (with_reducible exact LeO.none _)
   | (with_reducible refine LeO.ite ?_ ?_)
   | (with_reducible refine LeO.bind ?_ (fun _ => ?_))
   | exact ih0 _ _ _
   | exact ih1 _ _ _ _
   | exact LeO.none _
   | refine LeO.ite ?_ ?_
   | refine LeO.bind ?_ (fun _ => ?_)
theorem r_less.mono : ∀ a0 a1 k, LeO (r_less.f k a0 a1) (r_less.f (k + 1) a0 a1) := by
 intro a0 a1 k;obtain ⟨ih0, ih1⟩ := r_less.mono_l k;unfold r_less.f
 repeat' first
   | (with_reducible exact ih0 _ _ _)
   | (with_reducible exact ih1 _ _ _ _)
   | (with_reducible exact LeO.refl _)
   | (with_reducible exact LeO.none _)
   | (with_reducible refine LeO.ite ?_ ?_)
   | (with_reducible refine LeO.bind ?_ (fun _ => ?_))
   | exact ih0 _ _ _
   | exact ih1 _ _ _ _
   | exact LeO.none _
   | refine LeO.ite ?_ ?_
   | refine LeO.bind ?_ (fun _ => ?_)
theorem r_less.calls (k : Nat) (a0 : ByteArray) (a1 : ByteArray) (r : Int) (w : World) (h : r_less.f k a0 a1 = some r) :
  Calls Tryz.prog 103 #[.string a0, .string a1] w fun e w' => e = .returned (.int .i64 r) ∧ Drawn0 w w' := by
 have H : (r_less.l0 k a0 a1 0) = some r := h;clear h;have H' := Aside0.mk H;clear H;go_enter Tryz.func103, Tryz.ntmps103;go_wp2
 repeat (go_quiet (fail); try go_wp2)
 go_loopg [5] k (fun kq v5 w' => ∃ (x5_1 : Int), v5 = .int .i64 x5_1 ∧ Aside0 (r_less.l0 kq a0 a1 x5_1 = some r) ∧ Aside0 (kq ≤ k) ∧ Drawn0 w w')
 case atStart => exact ⟨(0), (by first | rfl | (simp; done) | (simp [*]; done)), H', ⟨Nat.le_refl _⟩, by repeat (first | exact Drawn0.refl _ | apply Drawn0.step)⟩
 clear H';obtain ⟨x5_1, rfl, HA, HK1, ⟨m1, rfl⟩⟩ := hrel
 cases gk with
 | zero => exact absurd HA.out (by simp [r_less.l0])
 | succ k1 =>
  have H := HA.out;clear HA;simp only [r_less.l0] at H;have HC3 := Aside0.mk H;clear H;go_upto_region 2 with (fail)
  repeat (go_quiet (fail); go_upto_region 2 with (fail))
  go_cut [15] (fun v15 wc => ∃ (kq : Nat) (x15_2 : Bool), v15 = .bool x15_2 ∧ Aside0 (r_less.j1 kq a0 a1 x5_1 x15_2 = some r) ∧ Aside0 (kq ≤ k1) ∧ Drawn0 w wc)
  case first =>
   have H := HC3.out;clear HC3
   by_cases c4 : x5_1 < (a0.size : Int)
   ·
    rw [if_pos c4] at H;have c4b0 : decide (x5_1 < (a0.size : Int)) = true := decide_eq_true c4;clear c4
    (first | rw [c4b0] | (simp only [i64_w, i32_w]; rw [c4b0]) | skip)
    have H' := Aside0.mk H;clear H;go_wp2
    repeat (go_quiet (fail); try go_wp2)
    go_meet
    case rel => exact ⟨_, (decide (x5_1 < (a1.size : Int))), (by first | rfl | (simp; done) | (simp [*]; done)), H', ⟨by have := HK1.out; first | omega | exact Nat.le_refl _⟩, by repeat (first | exact Drawn0.refl _ | apply Drawn0.step)⟩
   rw [if_neg c4] at H;have c4b0 : decide (x5_1 < (a0.size : Int)) = false := decide_eq_false c4;clear c4
   (first | rw [c4b0] | (simp only [i64_w, i32_w]; rw [c4b0]) | skip)
   have H' := Aside0.mk H;clear H;go_wp2
   repeat (go_quiet (fail); try go_wp2)
   go_meet
   case rel => exact ⟨_, (false), (by first | rfl | (simp; done) | (simp [*]; done)), H', ⟨by have := HK1.out; first | omega | exact Nat.le_refl _⟩, by repeat (first | exact Drawn0.refl _ | apply Drawn0.step)⟩
  clear HC3;obtain ⟨kq, x15_2, rfl, HA, HJ2, ⟨mc2, rfl⟩⟩ := hcut
  cases kq with
  | zero => exact absurd HA.out (by simp [r_less.j1])
  | succ kj2 =>
   have H := HA.out;clear HA;simp only [r_less.j1] at H
   by_cases c5 : x15_2 = true
   ·
    subst c5;have H1 : (if 0 ≤ x5_1 then (if x5_1 < (a0.size : Int) then (if x5_1 < (a1.size : Int) then (if (bt a0 x5_1) < (bt a1 x5_1) then (some (-1)) else (if (bt a0 x5_1) > (bt a1 x5_1) then (some 1) else (r_less.l0 kj2 a0 a1 (wrap64 (x5_1 + 1))))) else (none)) else (none)) else (none)) = some r := by rw [if_pos rfl] at H; exact H
    clear H;have H := H1;clear H1
    by_cases c6 : 0 ≤ x5_1
    ·
     rw [if_pos c6] at H;have c6b0 : decide (0 ≤ x5_1) = true := decide_eq_true c6;clear c6
     by_cases c7 : x5_1 < (a0.size : Int)
     ·
      rw [if_pos c7] at H;have c7b0 : decide (x5_1 < (a0.size : Int)) = true := decide_eq_true c7;clear c7
      by_cases c9 : x5_1 < (a1.size : Int)
      ·
       rw [if_pos c9] at H;have c9b0 : decide (x5_1 < (a1.size : Int)) = true := decide_eq_true c9;clear c9
       by_cases c11 : (bt a0 x5_1) < (bt a1 x5_1)
       ·
        rw [if_pos c11] at H;have c11b0 : decide ((bt a0 x5_1) < (bt a1 x5_1)) = true := decide_eq_true c11;clear c11;obtain rfl := Option.some.inj H;have p8 : 0 ≤ (x5_1 : Int) := of_decide_eq_true (by first | (with_reducible assumption) | assumption);have q8 : x5_1 < (a0.size : Int) := of_decide_eq_true (by first | (with_reducible assumption) | assumption);have hx8 := bt_at a0 x5_1;replace p8 := eq_true p8;replace q8 := eq_true q8;have p10 : 0 ≤ (x5_1 : Int) := of_decide_eq_true (by first | (with_reducible assumption) | assumption);have q10 : x5_1 < (a1.size : Int) := of_decide_eq_true (by first | (with_reducible assumption) | assumption);have hx10 := bt_at a1 x5_1;replace p10 := eq_true p10;replace q10 := eq_true q10;go_wp2
        repeat (go_quiet (fail); try go_wp2)
        go_ret;exact ⟨by first | rfl | (simp; done) | (simp [*]; done), by repeat (first | exact Drawn0.refl _ | apply Drawn0.step)⟩
       rw [if_neg c11] at H;have c11b0 : decide ((bt a0 x5_1) < (bt a1 x5_1)) = false := decide_eq_false c11;clear c11
       by_cases c14 : (bt a0 x5_1) > (bt a1 x5_1)
       ·
        rw [if_pos c14] at H;have c14b0 : decide ((bt a1 x5_1) < (bt a0 x5_1)) = true := decide_eq_true c14;clear c14;obtain rfl := Option.some.inj H;have p8 : 0 ≤ (x5_1 : Int) := of_decide_eq_true (by first | (with_reducible assumption) | assumption);have q8 : x5_1 < (a0.size : Int) := of_decide_eq_true (by first | (with_reducible assumption) | assumption);have hx8 := bt_at a0 x5_1;replace p8 := eq_true p8;replace q8 := eq_true q8;have p10 : 0 ≤ (x5_1 : Int) := of_decide_eq_true (by first | (with_reducible assumption) | assumption);have q10 : x5_1 < (a1.size : Int) := of_decide_eq_true (by first | (with_reducible assumption) | assumption);have hx10 := bt_at a1 x5_1;replace p10 := eq_true p10;replace q10 := eq_true q10;have p12 : 0 ≤ (x5_1 : Int) := of_decide_eq_true (by first | (with_reducible assumption) | assumption);have q12 : x5_1 < (a0.size : Int) := of_decide_eq_true (by first | (with_reducible assumption) | assumption);have hx12 := bt_at a0 x5_1;replace p12 := eq_true p12;replace q12 := eq_true q12;have p13 : 0 ≤ (x5_1 : Int) := of_decide_eq_true (by first | (with_reducible assumption) | assumption);have q13 : x5_1 < (a1.size : Int) := of_decide_eq_true (by first | (with_reducible assumption) | assumption);have hx13 := bt_at a1 x5_1;replace p13 := eq_true p13;replace q13 := eq_true q13;go_wp2
        repeat (go_quiet (fail); try go_wp2)
        go_ret;exact ⟨by first | rfl | (simp; done) | (simp [*]; done), by repeat (first | exact Drawn0.refl _ | apply Drawn0.step)⟩
       rw [if_neg c14] at H;have c14b0 : decide ((bt a1 x5_1) < (bt a0 x5_1)) = false := decide_eq_false c14;clear c14;have H' := Aside0.mk H;clear H;have p8 : 0 ≤ (x5_1 : Int) := of_decide_eq_true (by first | (with_reducible assumption) | assumption);have q8 : x5_1 < (a0.size : Int) := of_decide_eq_true (by first | (with_reducible assumption) | assumption);have hx8 := bt_at a0 x5_1;replace p8 := eq_true p8;replace q8 := eq_true q8;have p10 : 0 ≤ (x5_1 : Int) := of_decide_eq_true (by first | (with_reducible assumption) | assumption);have q10 : x5_1 < (a1.size : Int) := of_decide_eq_true (by first | (with_reducible assumption) | assumption);have hx10 := bt_at a1 x5_1;replace p10 := eq_true p10;replace q10 := eq_true q10;have p12 : 0 ≤ (x5_1 : Int) := of_decide_eq_true (by first | (with_reducible assumption) | assumption);have q12 : x5_1 < (a0.size : Int) := of_decide_eq_true (by first | (with_reducible assumption) | assumption);have hx12 := bt_at a0 x5_1;replace p12 := eq_true p12;replace q12 := eq_true q12;have p13 : 0 ≤ (x5_1 : Int) := of_decide_eq_true (by first | (with_reducible assumption) | assumption);have q13 : x5_1 < (a1.size : Int) := of_decide_eq_true (by first | (with_reducible assumption) | assumption);have hx13 := bt_at a1 x5_1;replace p13 := eq_true p13;replace q13 := eq_true q13;go_wp2
       repeat (go_quiet (fail); try go_wp2)
       go_roundg kj2
       case measure => have := HK1.out; have := HJ2.out; omega
       case rel => exact ⟨(wrap64 (x5_1 + 1)), (by first | rfl | (simp; done) | (simp [*]; done)), H', ⟨by have := HK1.out; have := HJ2.out; omega⟩, by repeat (first | exact Drawn0.refl _ | apply Drawn0.step)⟩
      rw [if_neg c9] at H;exact absurd H (by simp)
     rw [if_neg c7] at H;exact absurd H (by simp)
    rw [if_neg c6] at H;exact absurd H (by simp)
   replace c5 := Bool.eq_false_iff.mpr c5;subst c5;have H1 : (if (a0.size : Int) < (a1.size : Int) then (some (-1)) else (if (a0.size : Int) > (a1.size : Int) then (some 1) else (some 0))) = some r := by rw [if_neg (show ¬ (false = true) by decide)] at H; exact H
   clear H;have H := H1;clear H1
   by_cases c15 : (a0.size : Int) < (a1.size : Int)
   ·
    rw [if_pos c15] at H;have c15b0 : decide ((a0.size : Int) < (a1.size : Int)) = true := decide_eq_true c15;have c15b1 : decide (a0.size < a1.size) = true := decide_eq_true (Int.ofNat_lt.mp c15);clear c15;obtain rfl := Option.some.inj H;go_wp2
    repeat (go_quiet (fail); try go_wp2)
    go_ret;exact ⟨by first | rfl | (simp; done) | (simp [*]; done), by repeat (first | exact Drawn0.refl _ | apply Drawn0.step)⟩
   rw [if_neg c15] at H;have c15b0 : decide ((a0.size : Int) < (a1.size : Int)) = false := decide_eq_false c15;have c15b1 : decide (a0.size < a1.size) = false := decide_eq_false (fun h => c15 (Int.ofNat_lt.mpr h));clear c15
   by_cases c16 : (a0.size : Int) > (a1.size : Int)
   ·
    rw [if_pos c16] at H;have c16b0 : decide ((a1.size : Int) < (a0.size : Int)) = true := decide_eq_true c16;have c16b1 : decide (a1.size < a0.size) = true := decide_eq_true (Int.ofNat_lt.mp c16);clear c16;obtain rfl := Option.some.inj H;go_wp2
    repeat (go_quiet (fail); try go_wp2)
    go_ret;exact ⟨by first | rfl | (simp; done) | (simp [*]; done), by repeat (first | exact Drawn0.refl _ | apply Drawn0.step)⟩
   rw [if_neg c16] at H;have c16b0 : decide ((a1.size : Int) < (a0.size : Int)) = false := decide_eq_false c16;have c16b1 : decide (a1.size < a0.size) = false := decide_eq_false (fun h => c16 (Int.ofNat_lt.mpr h));clear c16;obtain rfl := Option.some.inj H;go_wp2
   repeat (go_quiet (fail); try go_wp2)
   go_ret;exact ⟨by first | rfl | (simp; done) | (simp [*]; done), by repeat (first | exact Drawn0.refl _ | apply Drawn0.step)⟩
end Go.Proofs.YtibmfjacfbpfgaaGreatDoor.PNm
namespace Go.Proofs.YtibmfjacfbpfgaaGreatDoor.PNm
open Go.RowKit YtibmfjacfbpfgaaGreatDoorW PrintWords PrintLast PrintMore
attribute [local go_sem] max2_int min2_int max_two min_two max_three min_three max_four min_four   -- for this text's walks alone
mutual
def r_Order.l0 : Nat → List ByteArray → List ByteArray → Int → Option (Int)
 | 0, _, _, _ => none
 | k + 1, x5, x6, x7 => if x7 < (x5.length : Int) then (r_Order.j1 k x5 x6 x7 (decide (x7 < (x6.length : Int)))) else (r_Order.j1 k x5 x6 x7 false)
def r_Order.j1 : Nat → List ByteArray → List ByteArray → Int → Bool → Option (Int)
 | 0, _, _, _, _ => none
 | k + 1, x5, x6, x7, x22 => if x22 = true then (if 0 ≤ x7 then (if x7 < (x5.length : Int) then (if x7 < (x6.length : Int) then ((r_less.f k (rdOf ByteArray.empty x5 x7) (rdOf ByteArray.empty x6 x7)).bind fun t115 => (if t115 = 0 then (r_Order.l0 k x5 x6 (wrap64 (x7 + 1))) else (some t115))) else (none)) else (none)) else (none)) else (if (x5.length : Int) < (x6.length : Int) then (some (-1)) else (if (x5.length : Int) > (x6.length : Int) then (some 1) else (some 0)))
end
def r_Order.f (k : Nat) (a0 : ByteArray) (a1 : ByteArray) : Option (Int) := (r_Parts.f k a0).bind fun t107 => ((r_Parts.f k a1).bind fun t110 => (r_Order.l0 k t107 t110 0))
theorem r_Order.mono_l : ∀ k, (∀ y0 y1 y2, LeO (r_Order.l0 k y0 y1 y2) (r_Order.l0 (k + 1) y0 y1 y2)) ∧ (∀ y0 y1 y2 y3, LeO (r_Order.j1 k y0 y1 y2 y3) (r_Order.j1 (k + 1) y0 y1 y2 y3))
 | 0 => ⟨fun _ _ _ r h => by simp [r_Order.l0] at h, fun _ _ _ _ r h => by simp [r_Order.j1] at h⟩
 | k + 1 => by
  obtain ⟨ih0, ih1⟩ := r_Order.mono_l k;refine ⟨?_, ?_⟩
  all_goals
   intros
   first
   | unfold r_Order.l0
   | unfold r_Order.j1
   repeat' first
   | (with_reducible exact ih0 _ _ _)
   | (with_reducible exact ih1 _ _ _ _)
   | (with_reducible exact r_Parts.mono _ _)
   | (with_reducible exact r_less.mono _ _ _)
   | (with_reducible exact LeO.refl _)
   | (with_reducible exact LeO.none _)
   | (with_reducible refine LeO.ite ?_ ?_)
   | (with_reducible refine LeO.bind ?_ (fun _ => ?_))
   | exact ih0 _ _ _
   | exact ih1 _ _ _ _
   | exact r_Parts.mono _ _
   | exact r_less.mono _ _ _
   | exact LeO.none _
   | refine LeO.ite ?_ ?_
   | refine LeO.bind ?_ (fun _ => ?_)
theorem r_Order.mono : ∀ a0 a1 k, LeO (r_Order.f k a0 a1) (r_Order.f (k + 1) a0 a1) := by
 intro a0 a1 k;obtain ⟨ih0, ih1⟩ := r_Order.mono_l k;unfold r_Order.f
 repeat' first
   | (with_reducible exact ih0 _ _ _)
   | (with_reducible exact ih1 _ _ _ _)
   | (with_reducible exact r_Parts.mono _ _)
   | (with_reducible exact r_less.mono _ _ _)
   | (with_reducible exact LeO.refl _)
   | (with_reducible exact LeO.none _)
   | (with_reducible refine LeO.ite ?_ ?_)
   | (with_reducible refine LeO.bind ?_ (fun _ => ?_))
   | exact ih0 _ _ _
   | exact ih1 _ _ _ _
   | exact r_Parts.mono _ _
   | exact r_less.mono _ _ _
   | exact LeO.none _
   | refine LeO.ite ?_ ?_
   | refine LeO.bind ?_ (fun _ => ?_)
theorem r_Order.calls (k : Nat) (a0 : ByteArray) (a1 : ByteArray) (r : Int) (w : World) (h : r_Order.f k a0 a1 = some r) :
  Calls Tryz.prog 67 #[.string a0, .string a1] w fun e w' => e = .returned (.int .i64 r) ∧ Below w.heap.size w w' := by
 have HB := Aside0.mk (Below.refl w.heap.size w);have H : ((r_Parts.f k a0).bind fun t107 => ((r_Parts.f k a1).bind fun t110 => (r_Order.l0 k t107 t110 0))) = some r := h;clear h;replace H := Option.bind_eq_some_iff.mp H;obtain ⟨t107, A30, H⟩ := H;replace H : ((r_Parts.f k a1).bind fun t110 => (r_Order.l0 k t107 t110 0)) = some r := H;have A3 := Aside0.mk A30;clear A30;replace H := Option.bind_eq_some_iff.mp H;obtain ⟨t110, A40, H⟩ := H;replace H : (r_Order.l0 k t107 t110 0) = some r := H;have A4 := Aside0.mk A40;clear A40;have H' := Aside0.mk H;clear H;go_enter Tryz.func67, Tryz.ntmps67
 go_wp2_with (first | (go_at_call 73; (with_reducible refine (r_Parts.calls k a0 t107 _ A3.out).mono ?_); rintro e w5 ⟨v108, rfl, ho0, hb⟩; have n0_ := Aside0.mk (Kd.R_lower ho0 (below_size (by repeat (first | (with_reducible first | exact HB.out | apply below_alloc | apply pw_below_drewN | apply below_drew1) | exact HB.out)))); have n1_ := Aside0.mk (below_step (by repeat (first | (with_reducible first | exact HB.out | apply below_alloc | apply pw_below_drewN | apply below_drew1) | exact HB.out)) hb); clear HB; have HO109 := n0_; have HB := n1_; clear n0_ n1_; (try clear hb); (try clear hb2); (try clear hk); (try clear hi); (try clear ho0)) | (go_at_call 73; (with_reducible refine (r_Parts.calls k a1 t110 _ A4.out).mono ?_); rintro e w6 ⟨v111, rfl, ho0, hb⟩; have n0_ := Aside0.mk (Kd.R_elder' (by (with_reducible repeat (first | apply Kd.R_alloc | apply Kd.R_drewN | apply Kd.R_drew)); exact HO109.out) (Kd.R_base ho0) hb); have n1_ := Aside0.mk (Kd.R_lower (Kd.R_new' ho0 (Kd.R_lt (by (with_reducible repeat (first | apply Kd.R_alloc | apply Kd.R_drewN | apply Kd.R_drew)); exact HO109.out))) (below_size (by repeat (first | (with_reducible first | exact HB.out | apply below_alloc | apply pw_below_drewN | apply below_drew1) | exact HB.out)))); have n2_ := Aside0.mk (below_step (by repeat (first | (with_reducible first | exact HB.out | apply below_alloc | apply pw_below_drewN | apply below_drew1) | exact HB.out)) hb); clear HO109; clear HB; have HO109 := n0_; have HO112 := n1_; have HB := n2_; clear n0_ n1_ n2_; (try clear hb); (try clear hb2); (try clear hk); (try clear hi); (try clear ho0)))
 repeat (go_quiet (first | (go_at_call 73; (with_reducible refine (r_Parts.calls k a0 t107 _ A3.out).mono ?_); rintro e w5 ⟨v108, rfl, ho0, hb⟩; have n0_ := Aside0.mk (Kd.R_lower ho0 (below_size (by repeat (first | (with_reducible first | exact HB.out | apply below_alloc | apply pw_below_drewN | apply below_drew1) | exact HB.out)))); have n1_ := Aside0.mk (below_step (by repeat (first | (with_reducible first | exact HB.out | apply below_alloc | apply pw_below_drewN | apply below_drew1) | exact HB.out)) hb); clear HB; have HO109 := n0_; have HB := n1_; clear n0_ n1_; (try clear hb); (try clear hb2); (try clear hk); (try clear hi); (try clear ho0)) | (go_at_call 73; (with_reducible refine (r_Parts.calls k a1 t110 _ A4.out).mono ?_); rintro e w6 ⟨v111, rfl, ho0, hb⟩; have n0_ := Aside0.mk (Kd.R_elder' (by (with_reducible repeat (first | apply Kd.R_alloc | apply Kd.R_drewN | apply Kd.R_drew)); exact HO109.out) (Kd.R_base ho0) hb); have n1_ := Aside0.mk (Kd.R_lower (Kd.R_new' ho0 (Kd.R_lt (by (with_reducible repeat (first | apply Kd.R_alloc | apply Kd.R_drewN | apply Kd.R_drew)); exact HO109.out))) (below_size (by repeat (first | (with_reducible first | exact HB.out | apply below_alloc | apply pw_below_drewN | apply below_drew1) | exact HB.out)))); have n2_ := Aside0.mk (below_step (by repeat (first | (with_reducible first | exact HB.out | apply below_alloc | apply pw_below_drewN | apply below_drew1) | exact HB.out)) hb); clear HO109; clear HB; have HO109 := n0_; have HO112 := n1_; have HB := n2_; clear n0_ n1_ n2_; (try clear hb); (try clear hb2); (try clear hk); (try clear hi); (try clear ho0))); try go_wp2_with (first | (go_at_call 73; (with_reducible refine (r_Parts.calls k a0 t107 _ A3.out).mono ?_); rintro e w5 ⟨v108, rfl, ho0, hb⟩; have n0_ := Aside0.mk (Kd.R_lower ho0 (below_size (by repeat (first | (with_reducible first | exact HB.out | apply below_alloc | apply pw_below_drewN | apply below_drew1) | exact HB.out)))); have n1_ := Aside0.mk (below_step (by repeat (first | (with_reducible first | exact HB.out | apply below_alloc | apply pw_below_drewN | apply below_drew1) | exact HB.out)) hb); clear HB; have HO109 := n0_; have HB := n1_; clear n0_ n1_; (try clear hb); (try clear hb2); (try clear hk); (try clear hi); (try clear ho0)) | (go_at_call 73; (with_reducible refine (r_Parts.calls k a1 t110 _ A4.out).mono ?_); rintro e w6 ⟨v111, rfl, ho0, hb⟩; have n0_ := Aside0.mk (Kd.R_elder' (by (with_reducible repeat (first | apply Kd.R_alloc | apply Kd.R_drewN | apply Kd.R_drew)); exact HO109.out) (Kd.R_base ho0) hb); have n1_ := Aside0.mk (Kd.R_lower (Kd.R_new' ho0 (Kd.R_lt (by (with_reducible repeat (first | apply Kd.R_alloc | apply Kd.R_drewN | apply Kd.R_drew)); exact HO109.out))) (below_size (by repeat (first | (with_reducible first | exact HB.out | apply below_alloc | apply pw_below_drewN | apply below_drew1) | exact HB.out)))); have n2_ := Aside0.mk (below_step (by repeat (first | (with_reducible first | exact HB.out | apply below_alloc | apply pw_below_drewN | apply below_drew1) | exact HB.out)) hb); clear HO109; clear HB; have HO109 := n0_; have HO112 := n1_; have HB := n2_; clear n0_ n1_ n2_; (try clear hb); (try clear hb2); (try clear hk); (try clear hi); (try clear ho0))))
 go_loopg [7] k (fun kq v7 w' => ∃ (x7_1 : Int), v7 = .int .i64 x7_1 ∧ Aside0 (r_Order.l0 kq t107 t110 x7_1 = some r) ∧ Aside0 (kq ≤ k) ∧ Aside0 (Kd.R Kd.string 9 w' w.heap.size (fun k_ => some k_ ≠ (v111 : Value).ownBlock) v108 t107) ∧ Aside0 (Kd.R Kd.string 9 w' w.heap.size (fun k_ => some k_ ≠ (v108 : Value).ownBlock) v111 t110) ∧ Aside0 (Below w.heap.size w w'))
 case atStart => exact ⟨(0), (by first | rfl | (simp; done) | (simp [*]; done)), H', ⟨Nat.le_refl _⟩, ⟨by (with_reducible repeat (first | apply Kd.R_alloc | apply Kd.R_drewN | apply Kd.R_drew)); exact Kd.R_mono HO109.out (fun _ hk => hk.2)⟩, ⟨by (with_reducible repeat (first | apply Kd.R_alloc | apply Kd.R_drewN | apply Kd.R_drew)); exact Kd.R_mono HO112.out (fun _ hk => hk.2)⟩, ⟨by repeat (first | (with_reducible first | exact HB.out | apply below_alloc | apply pw_below_drewN | apply below_drew1) | exact HB.out)⟩⟩
 clear H';obtain ⟨x7_1, rfl, HA, HK1, HO_5, HO_6, HB⟩ := hrel
 cases gk with
 | zero => exact absurd HA.out (by simp [r_Order.l0])
 | succ k1 =>
  have H := HA.out;clear HA;simp only [r_Order.l0] at H;have HC7 := Aside0.mk H;clear H;go_upto_region 3 with (fail)
  repeat (go_quiet (fail); go_upto_region 3 with (fail))
  go_cut [22] (fun v22 wc => ∃ (kq : Nat) (x22_6 : Bool), v22 = .bool x22_6 ∧ Aside0 (r_Order.j1 kq t107 t110 x7_1 x22_6 = some r) ∧ Aside0 (kq ≤ k1) ∧ Aside0 (Kd.R Kd.string 9 wc w.heap.size (fun k_ => some k_ ≠ (v111 : Value).ownBlock) v108 t107) ∧ Aside0 (Kd.R Kd.string 9 wc w.heap.size (fun k_ => some k_ ≠ (v108 : Value).ownBlock) v111 t110) ∧ Aside0 (Below w.heap.size w wc))
  case first =>
   have H := HC7.out;clear HC7
   by_cases c8 : x7_1 < (t107.length : Int)
   ·
    rw [if_pos c8] at H;have c8b0 : decide (x7_1 < (t107.length : Int)) = true := decide_eq_true c8;clear c8
    (first | rw [c8b0] | (simp only [i64_w, i32_w]; rw [c8b0]) | skip)
    have H' := Aside0.mk H;clear H;obtain ⟨Ao9, co9, eo9⟩ := Kd.R_slice HO_5.out;subst eo9;obtain ⟨Ao10, co10, eo10⟩ := Kd.R_slice HO_6.out;subst eo10;go_wp2
    repeat (go_quiet (fail); try go_wp2)
    go_meet
    case rel => exact ⟨_, (decide (x7_1 < (t110.length : Int))), (by first | rfl | (simp; done) | (simp [*]; done)), H', ⟨by have := HK1.out; first | omega | exact Nat.le_refl _⟩, ⟨by (with_reducible repeat (first | apply Kd.R_alloc | apply Kd.R_drewN | apply Kd.R_drew)); exact HO_5.out⟩, ⟨by (with_reducible repeat (first | apply Kd.R_alloc | apply Kd.R_drewN | apply Kd.R_drew)); exact HO_6.out⟩, ⟨by repeat (first | (with_reducible first | exact HB.out | apply below_alloc | apply pw_below_drewN | apply below_drew1) | exact HB.out)⟩⟩
   rw [if_neg c8] at H;have c8b0 : decide (x7_1 < (t107.length : Int)) = false := decide_eq_false c8;clear c8
   (first | rw [c8b0] | (simp only [i64_w, i32_w]; rw [c8b0]) | skip)
   have H' := Aside0.mk H;clear H;obtain ⟨Ao11, co11, eo11⟩ := Kd.R_slice HO_5.out;subst eo11;go_wp2
   repeat (go_quiet (fail); try go_wp2)
   go_meet
   case rel => exact ⟨_, (false), (by first | rfl | (simp; done) | (simp [*]; done)), H', ⟨by have := HK1.out; first | omega | exact Nat.le_refl _⟩, ⟨by (with_reducible repeat (first | apply Kd.R_alloc | apply Kd.R_drewN | apply Kd.R_drew)); exact HO_5.out⟩, ⟨by (with_reducible repeat (first | apply Kd.R_alloc | apply Kd.R_drewN | apply Kd.R_drew)); exact HO_6.out⟩, ⟨by repeat (first | (with_reducible first | exact HB.out | apply below_alloc | apply pw_below_drewN | apply below_drew1) | exact HB.out)⟩⟩
  clear HC7;obtain ⟨kq, x22_6, rfl, HA, HJ6, HO_5, HO_6, HB⟩ := hcut
  cases kq with
  | zero => exact absurd HA.out (by simp [r_Order.j1])
  | succ kj6 =>
   have H := HA.out;clear HA;simp only [r_Order.j1] at H
   by_cases c12 : x22_6 = true
   ·
    subst c12;have H1 : (if 0 ≤ x7_1 then (if x7_1 < (t107.length : Int) then (if x7_1 < (t110.length : Int) then ((r_less.f kj6 (rdOf ByteArray.empty t107 x7_1) (rdOf ByteArray.empty t110 x7_1)).bind fun t115 => (if t115 = 0 then (r_Order.l0 kj6 t107 t110 (wrap64 (x7_1 + 1))) else (some t115))) else (none)) else (none)) else (none)) = some r := by rw [if_pos rfl] at H; exact H
    clear H;have H := H1;clear H1
    by_cases c13 : 0 ≤ x7_1
    ·
     rw [if_pos c13] at H;have c13b0 : decide (0 ≤ x7_1) = true := decide_eq_true c13;clear c13
     by_cases c14 : x7_1 < (t107.length : Int)
     ·
      rw [if_pos c14] at H;have c14b0 : decide (x7_1 < (t107.length : Int)) = true := decide_eq_true c14;clear c14
      by_cases c15 : x7_1 < (t110.length : Int)
      ·
       rw [if_pos c15] at H;have c15b0 : decide (x7_1 < (t110.length : Int)) = true := decide_eq_true c15;clear c15;replace H := Option.bind_eq_some_iff.mp H;obtain ⟨t115, A160, H⟩ := H;replace H : (if t115 = 0 then (r_Order.l0 kj6 t107 t110 (wrap64 (x7_1 + 1))) else (some t115)) = some r := H;have A16 := Aside0.mk A160;clear A160
       by_cases c17 : t115 = 0
       ·
        rw [if_pos c17] at H;have c17b0 : (t115 == 0) = true := beq_iff_eq.mpr c17;have c17b1 : (t115 != 0) = false := bne_eq_false_iff_eq.mpr c17;clear c17;have H' := Aside0.mk H;clear H;obtain ⟨Ao18, co18, eo18⟩ := Kd.R_slice HO_5.out;subst eo18;have p113 : 0 ≤ (x7_1 : Int) := of_decide_eq_true (by first | (with_reducible assumption) | assumption);have q113 : x7_1 < (t107.length : Int) := of_decide_eq_true (by first | (with_reducible assumption) | assumption);obtain ⟨ad113, e113, hx113_0⟩ := Kd.at_string (Kd.R_reads' HO_5.out).2.2 x7_1 p113 q113;cases e113;replace p113 := eq_true p113;replace q113 := eq_true q113;obtain ⟨Ao19, co19, eo19⟩ := Kd.R_slice HO_6.out;subst eo19;have p114 : 0 ≤ (x7_1 : Int) := of_decide_eq_true (by first | (with_reducible assumption) | assumption);have q114 : x7_1 < (t110.length : Int) := of_decide_eq_true (by first | (with_reducible assumption) | assumption);obtain ⟨ad114, e114, hx114_0⟩ := Kd.at_string (Kd.R_reads' HO_6.out).2.2 x7_1 p114 q114;cases e114;replace p114 := eq_true p114;replace q114 := eq_true q114
        go_wp2_with (first | (go_at_call 103; (with_reducible refine (r_less.calls kj6 (rdOf ByteArray.empty t107 x7_1) (rdOf ByteArray.empty t110 x7_1) t115 _ A16.out).mono ?_); rintro e w' ⟨rfl, ⟨nd, rfl⟩⟩; (try first | exact ⟨rfl, _, World.drewN_drewN _ _ _⟩ | exact ⟨rfl, _, Eq.trans (World.drewN_drewN _ _ _) (congrArg (World.drewN _) (Nat.add_assoc _ _ _))⟩)))
        repeat (go_quiet (first | (go_at_call 103; (with_reducible refine (r_less.calls kj6 (rdOf ByteArray.empty t107 x7_1) (rdOf ByteArray.empty t110 x7_1) t115 _ A16.out).mono ?_); rintro e w' ⟨rfl, ⟨nd, rfl⟩⟩; (try first | exact ⟨rfl, _, World.drewN_drewN _ _ _⟩ | exact ⟨rfl, _, Eq.trans (World.drewN_drewN _ _ _) (congrArg (World.drewN _) (Nat.add_assoc _ _ _))⟩))); try go_wp2_with (first | (go_at_call 103; (with_reducible refine (r_less.calls kj6 (rdOf ByteArray.empty t107 x7_1) (rdOf ByteArray.empty t110 x7_1) t115 _ A16.out).mono ?_); rintro e w' ⟨rfl, ⟨nd, rfl⟩⟩; (try first | exact ⟨rfl, _, World.drewN_drewN _ _ _⟩ | exact ⟨rfl, _, Eq.trans (World.drewN_drewN _ _ _) (congrArg (World.drewN _) (Nat.add_assoc _ _ _))⟩))))
        go_roundg kj6
        case measure => have := HK1.out; have := HJ6.out; omega
        case rel => exact ⟨(wrap64 (x7_1 + 1)), (by first | rfl | (simp; done) | (simp [*]; done)), H', ⟨by have := HK1.out; have := HJ6.out; omega⟩, ⟨by (with_reducible repeat (first | apply Kd.R_alloc | apply Kd.R_drewN | apply Kd.R_drew)); exact HO_5.out⟩, ⟨by (with_reducible repeat (first | apply Kd.R_alloc | apply Kd.R_drewN | apply Kd.R_drew)); exact HO_6.out⟩, ⟨by repeat (first | (with_reducible first | exact HB.out | apply below_alloc | apply pw_below_drewN | apply below_drew1) | exact HB.out)⟩⟩
       rw [if_neg c17] at H;have c17b0 : (t115 == 0) = false := beq_eq_false_iff_ne.mpr c17;have c17b1 : (t115 != 0) = true := bne_iff_ne.mpr c17;obtain rfl := Option.some.inj H;obtain ⟨Ao20, co20, eo20⟩ := Kd.R_slice HO_5.out;subst eo20;have p113 : 0 ≤ (x7_1 : Int) := of_decide_eq_true (by first | (with_reducible assumption) | assumption);have q113 : x7_1 < (t107.length : Int) := of_decide_eq_true (by first | (with_reducible assumption) | assumption);obtain ⟨ad113, e113, hx113_0⟩ := Kd.at_string (Kd.R_reads' HO_5.out).2.2 x7_1 p113 q113;cases e113;replace p113 := eq_true p113;replace q113 := eq_true q113;obtain ⟨Ao21, co21, eo21⟩ := Kd.R_slice HO_6.out;subst eo21;have p114 : 0 ≤ (x7_1 : Int) := of_decide_eq_true (by first | (with_reducible assumption) | assumption);have q114 : x7_1 < (t110.length : Int) := of_decide_eq_true (by first | (with_reducible assumption) | assumption);obtain ⟨ad114, e114, hx114_0⟩ := Kd.at_string (Kd.R_reads' HO_6.out).2.2 x7_1 p114 q114;cases e114;replace p114 := eq_true p114;replace q114 := eq_true q114
       go_wp2_with (first | (go_at_call 103; (with_reducible refine (r_less.calls kj6 (rdOf ByteArray.empty t107 x7_1) (rdOf ByteArray.empty t110 x7_1) t115 _ A16.out).mono ?_); rintro e w' ⟨rfl, ⟨nd, rfl⟩⟩; (try first | exact ⟨rfl, _, World.drewN_drewN _ _ _⟩ | exact ⟨rfl, _, Eq.trans (World.drewN_drewN _ _ _) (congrArg (World.drewN _) (Nat.add_assoc _ _ _))⟩)))
       repeat (go_quiet (first | (go_at_call 103; (with_reducible refine (r_less.calls kj6 (rdOf ByteArray.empty t107 x7_1) (rdOf ByteArray.empty t110 x7_1) t115 _ A16.out).mono ?_); rintro e w' ⟨rfl, ⟨nd, rfl⟩⟩; (try first | exact ⟨rfl, _, World.drewN_drewN _ _ _⟩ | exact ⟨rfl, _, Eq.trans (World.drewN_drewN _ _ _) (congrArg (World.drewN _) (Nat.add_assoc _ _ _))⟩))); try go_wp2_with (first | (go_at_call 103; (with_reducible refine (r_less.calls kj6 (rdOf ByteArray.empty t107 x7_1) (rdOf ByteArray.empty t110 x7_1) t115 _ A16.out).mono ?_); rintro e w' ⟨rfl, ⟨nd, rfl⟩⟩; (try first | exact ⟨rfl, _, World.drewN_drewN _ _ _⟩ | exact ⟨rfl, _, Eq.trans (World.drewN_drewN _ _ _) (congrArg (World.drewN _) (Nat.add_assoc _ _ _))⟩))))
       go_ret
       exact ⟨by first | rfl | (simp [errW_none, errW_some] <;> rfl) | (simp [*, errW_none, errW_some] <;> rfl), by repeat (first | (with_reducible first | exact HB.out | apply below_alloc | apply pw_below_drewN | apply below_drew1) | exact HB.out)⟩
      rw [if_neg c15] at H;exact absurd H (by simp)
     rw [if_neg c14] at H;exact absurd H (by simp)
    rw [if_neg c13] at H;exact absurd H (by simp)
   replace c12 := Bool.eq_false_iff.mpr c12;subst c12;have H1 : (if (t107.length : Int) < (t110.length : Int) then (some (-1)) else (if (t107.length : Int) > (t110.length : Int) then (some 1) else (some 0))) = some r := by rw [if_neg (show ¬ (false = true) by decide)] at H; exact H
   clear H;have H := H1;clear H1
   by_cases c22 : (t107.length : Int) < (t110.length : Int)
   ·
    rw [if_pos c22] at H;have c22b0 : decide ((t107.length : Int) < (t110.length : Int)) = true := decide_eq_true c22;have c22b1 : decide (t107.length < t110.length) = true := decide_eq_true (Int.ofNat_lt.mp c22);clear c22;obtain rfl := Option.some.inj H;obtain ⟨Ao23, co23, eo23⟩ := Kd.R_slice HO_5.out;subst eo23;obtain ⟨Ao24, co24, eo24⟩ := Kd.R_slice HO_6.out;subst eo24;go_wp2
    repeat (go_quiet (fail); try go_wp2)
    go_ret
    exact ⟨by first | rfl | (simp [errW_none, errW_some] <;> rfl) | (simp [*, errW_none, errW_some] <;> rfl), by repeat (first | (with_reducible first | exact HB.out | apply below_alloc | apply pw_below_drewN | apply below_drew1) | exact HB.out)⟩
   rw [if_neg c22] at H;have c22b0 : decide ((t107.length : Int) < (t110.length : Int)) = false := decide_eq_false c22;have c22b1 : decide (t107.length < t110.length) = false := decide_eq_false (fun h => c22 (Int.ofNat_lt.mpr h));clear c22
   by_cases c25 : (t107.length : Int) > (t110.length : Int)
   ·
    rw [if_pos c25] at H;have c25b0 : decide ((t110.length : Int) < (t107.length : Int)) = true := decide_eq_true c25;have c25b1 : decide (t110.length < t107.length) = true := decide_eq_true (Int.ofNat_lt.mp c25);clear c25;obtain rfl := Option.some.inj H;obtain ⟨Ao26, co26, eo26⟩ := Kd.R_slice HO_5.out;subst eo26;obtain ⟨Ao27, co27, eo27⟩ := Kd.R_slice HO_6.out;subst eo27;go_wp2
    repeat (go_quiet (fail); try go_wp2)
    go_ret
    exact ⟨by first | rfl | (simp [errW_none, errW_some] <;> rfl) | (simp [*, errW_none, errW_some] <;> rfl), by repeat (first | (with_reducible first | exact HB.out | apply below_alloc | apply pw_below_drewN | apply below_drew1) | exact HB.out)⟩
   rw [if_neg c25] at H;have c25b0 : decide ((t110.length : Int) < (t107.length : Int)) = false := decide_eq_false c25;have c25b1 : decide (t110.length < t107.length) = false := decide_eq_false (fun h => c25 (Int.ofNat_lt.mpr h));clear c25;obtain rfl := Option.some.inj H;obtain ⟨Ao28, co28, eo28⟩ := Kd.R_slice HO_5.out;subst eo28;obtain ⟨Ao29, co29, eo29⟩ := Kd.R_slice HO_6.out;subst eo29;go_wp2
   repeat (go_quiet (fail); try go_wp2)
   go_ret
   exact ⟨by first | rfl | (simp [errW_none, errW_some] <;> rfl) | (simp [*, errW_none, errW_some] <;> rfl), by repeat (first | (with_reducible first | exact HB.out | apply below_alloc | apply pw_below_drewN | apply below_drew1) | exact HB.out)⟩
end Go.Proofs.YtibmfjacfbpfgaaGreatDoor.PNm
namespace Go.Proofs.YtibmfjacfbpfgaaGreatDoor.PNm
open Go.RowKit YtibmfjacfbpfgaaGreatDoorW PrintWords PrintLast PrintMore
attribute [local go_sem] max2_int min2_int max_two min_two max_three min_three max_four min_four   -- for this text's walks alone
def r_Parent.l0 : Nat → ByteArray → Int → Option (ByteArray)
 | 0, _, _ => none
 | k + 1, x0, x3 => if x3 ≥ 0 then (if 0 ≤ x3 then (if x3 < (x0.size : Int) then (if (bt x0 x3) = 47 then (if x3 ≤ (x0.size : Int) then (some (x0.extract 0 (x3 : Int).toNat)) else (none)) else (r_Parent.l0 k x0 (wrap64 (x3 - 1)))) else (none)) else (none)) else (some (⟨#[]⟩ : ByteArray))
def r_Parent.f (k : Nat) (a0 : ByteArray) : Option (ByteArray) := r_Parent.l0 k a0 (wrap64 ((a0.size : Int) - 1))
theorem r_Parent.mono_l : ∀ k, (∀ y0 y1, LeO (r_Parent.l0 k y0 y1) (r_Parent.l0 (k + 1) y0 y1))
 | 0 => fun _ _ r h => by simp [r_Parent.l0] at h
 | k + 1 => by
  have ih0 := r_Parent.mono_l k
  ·
   intro y0 y1;unfold r_Parent.l0
   repeat' first
   | (with_reducible exact ih0 _ _)
   | (with_reducible exact LeO.refl _)
   | (with_reducible exact LeO.none _)
   | (with_reducible refine LeO.ite ?_ ?_)
   | (with_reducible refine LeO.bind ?_ (fun _ => ?_))
   | exact ih0 _ _
   | exact LeO.none _
   | refine LeO.ite ?_ ?_
   | refine LeO.bind ?_ (fun _ => ?_)
theorem r_Parent.mono : ∀ a0 k, LeO (r_Parent.f k a0) (r_Parent.f (k + 1) a0) := by
 intro a0 k;have ih0 := r_Parent.mono_l k;unfold r_Parent.f
 repeat' first
   | (with_reducible exact ih0 _ _)
   | (with_reducible exact LeO.refl _)
   | (with_reducible exact LeO.none _)
   | (with_reducible refine LeO.ite ?_ ?_)
   | (with_reducible refine LeO.bind ?_ (fun _ => ?_))
   | exact ih0 _ _
   | exact LeO.none _
   | refine LeO.ite ?_ ?_
   | refine LeO.bind ?_ (fun _ => ?_)
theorem r_Parent.calls (k : Nat) (a0 : ByteArray) (r : ByteArray) (w : World) (h : r_Parent.f k a0 = some r) :
  Calls Tryz.prog 69 #[.string a0] w fun e w' => e = .returned (.string r) ∧ Drawn0 w w' := by
 have H : (r_Parent.l0 k a0 (wrap64 ((a0.size : Int) - 1))) = some r := h;clear h;have H' := Aside0.mk H;clear H;go_enter Tryz.func69, Tryz.ntmps69;go_wp2
 go_loopg [3] k (fun kq v3 w' => ∃ (x3_1 : Int), v3 = .int .i64 x3_1 ∧ Aside0 (r_Parent.l0 kq a0 x3_1 = some r) ∧ Aside0 (kq ≤ k) ∧ Drawn0 w w')
 case atStart => exact ⟨(wrap64 ((a0.size : Int) - 1)), (by first | rfl | (simp; done) | (simp [*]; done)), H', ⟨Nat.le_refl _⟩, by repeat (first | exact Drawn0.refl _ | apply Drawn0.step)⟩
 clear H';obtain ⟨x3_1, rfl, HA, HK1, ⟨m1, rfl⟩⟩ := hrel
 cases gk with
 | zero => exact absurd HA.out (by simp [r_Parent.l0])
 | succ k1 =>
  have H := HA.out;clear HA;simp only [r_Parent.l0] at H
  by_cases c2 : x3_1 ≥ 0
  ·
   rw [if_pos c2] at H;have c2b0 : decide (0 ≤ x3_1) = true := decide_eq_true c2;clear c2
   by_cases c3 : 0 ≤ x3_1
   ·
    rw [if_pos c3] at H;have c3b0 : decide (0 ≤ x3_1) = true := decide_eq_true c3;clear c3
    by_cases c4 : x3_1 < (a0.size : Int)
    ·
     rw [if_pos c4] at H;have c4b0 : decide (x3_1 < (a0.size : Int)) = true := decide_eq_true c4;clear c4
     by_cases c6 : (bt a0 x3_1) = 47
     ·
      rw [if_pos c6] at H;have c6b0 : ((bt a0 x3_1) == 47) = true := beq_iff_eq.mpr c6;have c6b1 : ((bt a0 x3_1) != 47) = false := bne_eq_false_iff_eq.mpr c6;clear c6;have c7b0 := eq_true (of_decide_eq_true (by first | (with_reducible assumption) | assumption) : 0 ≤ x3_1)
      by_cases c8 : x3_1 ≤ (a0.size : Int)
      ·
       rw [if_pos c8] at H;have c8b0 := eq_true c8;have c8b1 : decide (x3_1 ≤ (a0.size : Int)) = true := decide_eq_true c8;clear c8;obtain rfl := Option.some.inj H;have p5 : 0 ≤ (x3_1 : Int) := of_decide_eq_true (by first | (with_reducible assumption) | assumption);have q5 : x3_1 < (a0.size : Int) := of_decide_eq_true (by first | (with_reducible assumption) | assumption);have hx5 := bt_at a0 x3_1;replace p5 := eq_true p5;replace q5 := eq_true q5;go_wp2;go_ret;exact ⟨by first | rfl | (simp; done) | (simp [*]; done), by repeat (first | exact Drawn0.refl _ | apply Drawn0.step)⟩
      rw [if_neg c8] at H;exact absurd H (by simp)
     rw [if_neg c6] at H;have c6b0 : ((bt a0 x3_1) == 47) = false := beq_eq_false_iff_ne.mpr c6;have c6b1 : ((bt a0 x3_1) != 47) = true := bne_iff_ne.mpr c6;have H' := Aside0.mk H;clear H;have p5 : 0 ≤ (x3_1 : Int) := of_decide_eq_true (by first | (with_reducible assumption) | assumption);have q5 : x3_1 < (a0.size : Int) := of_decide_eq_true (by first | (with_reducible assumption) | assumption);have hx5 := bt_at a0 x3_1;replace p5 := eq_true p5;replace q5 := eq_true q5;go_wp2
     go_roundg k1
     case measure => have := HK1.out; omega
     case rel => exact ⟨(wrap64 (x3_1 - 1)), (by first | rfl | (simp; done) | (simp [*]; done)), H', ⟨by have := HK1.out; omega⟩, by repeat (first | exact Drawn0.refl _ | apply Drawn0.step)⟩
    rw [if_neg c4] at H;exact absurd H (by simp)
   rw [if_neg c3] at H;exact absurd H (by simp)
  rw [if_neg c2] at H;have c2b0 : decide (0 ≤ x3_1) = false := decide_eq_false c2;clear c2;obtain rfl := Option.some.inj H;go_wp2;go_ret;exact ⟨by first | rfl | (simp; done) | (simp [*]; done), by repeat (first | exact Drawn0.refl _ | apply Drawn0.step)⟩
end Go.Proofs.YtibmfjacfbpfgaaGreatDoor.PNm
namespace Go.Proofs.YtibmfjacfbpfgaaGreatDoor.PNm
open Go.RowKit YtibmfjacfbpfgaaGreatDoorW PrintWords PrintLast PrintMore
attribute [local go_sem] max2_int min2_int max_two min_two max_three min_three max_four min_four   -- for this text's walks alone
def bytealg_LastIndexByteString.l0 : Nat → ByteArray → Int → Int → Option (Int)
 | 0, _, _, _ => none
 | k + 1, x0, x1, x5 => if x5 ≥ 0 then (if 0 ≤ x5 then (if x5 < (x0.size : Int) then (if (bt x0 x5) = x1 then (some x5) else (bytealg_LastIndexByteString.l0 k x0 x1 (wrap64 (x5 - 1)))) else (none)) else (none)) else (some (-1))
def bytealg_LastIndexByteString.f (k : Nat) (a0 : ByteArray) (a1 : Int) : Option (Int) := bytealg_LastIndexByteString.l0 k a0 a1 (wrap64 ((a0.size : Int) - 1))
theorem bytealg_LastIndexByteString.mono_l : ∀ k, (∀ y0 y1 y2, LeO (bytealg_LastIndexByteString.l0 k y0 y1 y2) (bytealg_LastIndexByteString.l0 (k + 1) y0 y1 y2))
 | 0 => fun _ _ _ r h => by simp [bytealg_LastIndexByteString.l0] at h
 | k + 1 => by
  have ih0 := bytealg_LastIndexByteString.mono_l k
  ·
   intro y0 y1 y2;unfold bytealg_LastIndexByteString.l0
   repeat' first
   | (with_reducible exact ih0 _ _ _)
   | (with_reducible exact LeO.refl _)
   | (with_reducible exact LeO.none _)
   | (with_reducible refine LeO.ite ?_ ?_)
   | (with_reducible refine LeO.bind ?_ (fun _ => ?_))
   | exact ih0 _ _ _
   | exact LeO.none _
   | refine LeO.ite ?_ ?_
   | refine LeO.bind ?_ (fun _ => ?_)
theorem bytealg_LastIndexByteString.mono : ∀ a0 a1 k, LeO (bytealg_LastIndexByteString.f k a0 a1) (bytealg_LastIndexByteString.f (k + 1) a0 a1) := by
 intro a0 a1 k;have ih0 := bytealg_LastIndexByteString.mono_l k;unfold bytealg_LastIndexByteString.f
 repeat' first
   | (with_reducible exact ih0 _ _ _)
   | (with_reducible exact LeO.refl _)
   | (with_reducible exact LeO.none _)
   | (with_reducible refine LeO.ite ?_ ?_)
   | (with_reducible refine LeO.bind ?_ (fun _ => ?_))
   | exact ih0 _ _ _
   | exact LeO.none _
   | refine LeO.ite ?_ ?_
   | refine LeO.bind ?_ (fun _ => ?_)
theorem bytealg_LastIndexByteString.calls (k : Nat) (a0 : ByteArray) (a1 : Int) (r : Int) (w : World) (h : bytealg_LastIndexByteString.f k a0 a1 = some r) :
  Calls Tryz.prog 130 #[.string a0, .int .u8 a1] w fun e w' => e = .returned (.int .i64 r) ∧ Drawn0 w w' := by
 have H : (bytealg_LastIndexByteString.l0 k a0 a1 (wrap64 ((a0.size : Int) - 1))) = some r := h;clear h;have H' := Aside0.mk H;clear H;go_enter Tryz.func130, Tryz.ntmps130;go_wp2
 go_loopg [5] k (fun kq v5 w' => ∃ (x5_1 : Int), v5 = .int .i64 x5_1 ∧ Aside0 (bytealg_LastIndexByteString.l0 kq a0 a1 x5_1 = some r) ∧ Aside0 (kq ≤ k) ∧ Drawn0 w w')
 case atStart => exact ⟨(wrap64 ((a0.size : Int) - 1)), (by first | rfl | (simp; done) | (simp [*]; done)), H', ⟨Nat.le_refl _⟩, by repeat (first | exact Drawn0.refl _ | apply Drawn0.step)⟩
 clear H';obtain ⟨x5_1, rfl, HA, HK1, ⟨m1, rfl⟩⟩ := hrel
 cases gk with
 | zero => exact absurd HA.out (by simp [bytealg_LastIndexByteString.l0])
 | succ k1 =>
  have H := HA.out;clear HA;simp only [bytealg_LastIndexByteString.l0] at H
  by_cases c3 : x5_1 ≥ 0
  ·
   rw [if_pos c3] at H;have c3b0 : decide (0 ≤ x5_1) = true := decide_eq_true c3;clear c3
   by_cases c4 : 0 ≤ x5_1
   ·
    rw [if_pos c4] at H;have c4b0 : decide (0 ≤ x5_1) = true := decide_eq_true c4;clear c4
    by_cases c5 : x5_1 < (a0.size : Int)
    ·
     rw [if_pos c5] at H;have c5b0 : decide (x5_1 < (a0.size : Int)) = true := decide_eq_true c5;clear c5
     by_cases c7 : (bt a0 x5_1) = a1
     ·
      rw [if_pos c7] at H;have c7b0 : ((bt a0 x5_1) == a1) = true := beq_iff_eq.mpr c7;have c7b1 : ((bt a0 x5_1) != a1) = false := bne_eq_false_iff_eq.mpr c7;clear c7;obtain rfl := Option.some.inj H;have p6 : 0 ≤ (x5_1 : Int) := of_decide_eq_true (by first | (with_reducible assumption) | assumption);have q6 : x5_1 < (a0.size : Int) := of_decide_eq_true (by first | (with_reducible assumption) | assumption);have hx6 := bt_at a0 x5_1;replace p6 := eq_true p6;replace q6 := eq_true q6;go_wp2;go_ret;exact ⟨by first | rfl | (simp; done) | (simp [*]; done), by repeat (first | exact Drawn0.refl _ | apply Drawn0.step)⟩
     rw [if_neg c7] at H;have c7b0 : ((bt a0 x5_1) == a1) = false := beq_eq_false_iff_ne.mpr c7;have c7b1 : ((bt a0 x5_1) != a1) = true := bne_iff_ne.mpr c7;have H' := Aside0.mk H;clear H;have p6 : 0 ≤ (x5_1 : Int) := of_decide_eq_true (by first | (with_reducible assumption) | assumption);have q6 : x5_1 < (a0.size : Int) := of_decide_eq_true (by first | (with_reducible assumption) | assumption);have hx6 := bt_at a0 x5_1;replace p6 := eq_true p6;replace q6 := eq_true q6;go_wp2
     go_roundg k1
     case measure => have := HK1.out; omega
     case rel => exact ⟨(wrap64 (x5_1 - 1)), (by first | rfl | (simp; done) | (simp [*]; done)), H', ⟨by have := HK1.out; omega⟩, by repeat (first | exact Drawn0.refl _ | apply Drawn0.step)⟩
    rw [if_neg c5] at H;exact absurd H (by simp)
   rw [if_neg c4] at H;exact absurd H (by simp)
  rw [if_neg c3] at H;have c3b0 : decide (0 ≤ x5_1) = false := decide_eq_false c3;clear c3;obtain rfl := Option.some.inj H;go_wp2;go_ret;exact ⟨by first | rfl | (simp; done) | (simp [*]; done), by repeat (first | exact Drawn0.refl _ | apply Drawn0.step)⟩
end Go.Proofs.YtibmfjacfbpfgaaGreatDoor.PNm
namespace Go.Proofs.YtibmfjacfbpfgaaGreatDoor.PNm
open Go.RowKit YtibmfjacfbpfgaaGreatDoorW PrintWords PrintLast PrintMore
attribute [local go_sem] max2_int min2_int max_two min_two max_three min_three max_four min_four   -- for this text's walks alone
def strings_LastIndexByte.f (k : Nat) (a0 : ByteArray) (a1 : Int) : Option (Int) := (bytealg_LastIndexByteString.f k a0 a1).bind fun t116 => (some t116)
theorem strings_LastIndexByte.mono : ∀ a0 a1 k, LeO (strings_LastIndexByte.f k a0 a1) (strings_LastIndexByte.f (k + 1) a0 a1) := by
 intro a0 a1 k;unfold strings_LastIndexByte.f
 repeat' first
   | (with_reducible exact bytealg_LastIndexByteString.mono _ _ _)
   | (with_reducible exact LeO.refl _)
   | (with_reducible exact LeO.none _)
   | (with_reducible refine LeO.ite ?_ ?_)
   | (with_reducible refine LeO.bind ?_ (fun _ => ?_))
   | exact bytealg_LastIndexByteString.mono _ _ _
   | exact LeO.none _
   | refine LeO.ite ?_ ?_
   | refine LeO.bind ?_ (fun _ => ?_)
theorem strings_LastIndexByte.calls (k : Nat) (a0 : ByteArray) (a1 : Int) (r : Int) (w : World) (h : strings_LastIndexByte.f k a0 a1 = some r) :
  Calls Tryz.prog 101 #[.string a0, .int .u8 a1] w fun e w' => e = .returned (.int .i64 r) ∧ Drawn0 w w' := by
 have H : ((bytealg_LastIndexByteString.f k a0 a1).bind fun t116 => (some t116)) = some r := h;clear h;replace H := Option.bind_eq_some_iff.mp H;obtain ⟨t116, A30, H⟩ := H;replace H : (some t116) = some r := H;have A3 := Aside0.mk A30;clear A30;obtain rfl := Option.some.inj H;go_enter Tryz.func101, Tryz.ntmps101
 go_wp2_with (first | ((with_reducible refine gate_callee (f := 130) rfl ?_); refine goesL_ (some 7) rfl rfl Tryz.func130 (by kernel_rfl) rfl #[.string a0, .int .u8 a1] rfl (by (try simp only [List.map_toArray, List.map_cons, List.map_nil]); first | done | rfl | (simp only [List.length_drop, List.length_take]; rfl)) ?_; (with_reducible refine (bytealg_LastIndexByteString.calls k a0 a1 t116 _ A3.out).mono ?_); rintro e w' ⟨rfl, ⟨nd, rfl⟩⟩; refine ⟨_, rfl, ?_⟩))
 go_ret;exact ⟨by first | rfl | (simp; done) | (simp [*]; done), by repeat (first | exact Drawn0.refl _ | apply Drawn0.step)⟩
end Go.Proofs.YtibmfjacfbpfgaaGreatDoor.PNm
namespace Go.Proofs.YtibmfjacfbpfgaaGreatDoor.PNm
open Go.RowKit YtibmfjacfbpfgaaGreatDoorW PrintWords PrintLast PrintMore
attribute [local go_sem] max2_int min2_int max_two min_two max_three min_three max_four min_four   -- for this text's walks alone
def name_Parent.f (k : Nat) (a0 : ByteArray) : Option (ByteArray) := (strings_LastIndexByte.f k a0 47).bind fun t117 => (if 0 ≤ (mx 0 t117) then (if (mx 0 t117) ≤ (a0.size : Int) then (some (a0.extract 0 ((mx 0 t117) : Int).toNat)) else (none)) else (none))
theorem name_Parent.mono : ∀ a0 k, LeO (name_Parent.f k a0) (name_Parent.f (k + 1) a0) := by
 intro a0 k;unfold name_Parent.f
 repeat' first
   | (with_reducible exact strings_LastIndexByte.mono _ _ _)
   | (with_reducible exact LeO.refl _)
   | (with_reducible exact LeO.none _)
   | (with_reducible refine LeO.ite ?_ ?_)
   | (with_reducible refine LeO.bind ?_ (fun _ => ?_))
   | exact strings_LastIndexByte.mono _ _ _
   | exact LeO.none _
   | refine LeO.ite ?_ ?_
   | refine LeO.bind ?_ (fun _ => ?_)
theorem name_Parent.calls (k : Nat) (a0 : ByteArray) (r : ByteArray) (w : World) (h : name_Parent.f k a0 = some r) :
  Calls Tryz.prog 65 #[.string a0] w fun e w' => e = .returned (.string r) ∧ Below w.heap.size w w' := by
 have HB := Aside0.mk (Below.refl w.heap.size w);have H : ((strings_LastIndexByte.f k a0 47).bind fun t117 => (if 0 ≤ (mx 0 t117) then (if (mx 0 t117) ≤ (a0.size : Int) then (some (a0.extract 0 ((mx 0 t117) : Int).toNat)) else (none)) else (none))) = some r := h;clear h;replace H := Option.bind_eq_some_iff.mp H;obtain ⟨t117, A20, H⟩ := H;replace H : (if 0 ≤ (mx 0 t117) then (if (mx 0 t117) ≤ (a0.size : Int) then (some (a0.extract 0 ((mx 0 t117) : Int).toNat)) else (none)) else (none)) = some r := H;have A2 := Aside0.mk A20;clear A20;obtain ⟨ji3, hji3⟩ : ∃ j_ : Int, (mx 0 t117) = j_ := ⟨_, rfl⟩;replace H : (if 0 ≤ (ji3) then (if (ji3) ≤ (a0.size : Int) then (some (a0.extract 0 ((ji3) : Int).toNat)) else (none)) else (none)) = some r := by first | (rw [hji3] at H; exact H) | (simp only [hji3] at H ⊢; exact H)
 (try rw [hji3] at A2)
 (try (have hji3l : 0 ≤ ji3 := by (rw [← hji3]; unfold mx; (repeat' split) <;> omega)))
 (try (have hji3m : 0 ≤ ji3 := by omega))
 have hji3_ : (if 0 < t117 then t117 else 0) = ji3 := hji3
 by_cases c4 : 0 ≤ (ji3)
 ·
  rw [if_pos c4] at H;have c4b0 := eq_true c4;have c4b1 : decide (0 ≤ (ji3)) = true := decide_eq_true c4;clear c4
  by_cases c5 : (ji3) ≤ (a0.size : Int)
  ·
   rw [if_pos c5] at H;have c5b0 := eq_true c5;have c5b1 : decide ((ji3) ≤ (a0.size : Int)) = true := decide_eq_true c5;clear c5;obtain rfl := Option.some.inj H;go_enter Tryz.func65, Tryz.ntmps65
   go_wp2_with (first | ((with_reducible refine gate_callee (f := 101) rfl ?_); refine goesL_ (some 5) rfl rfl Tryz.func101 (by kernel_rfl) rfl #[.string a0, .int .u8 47] rfl (by (try simp only [List.map_toArray, List.map_cons, List.map_nil]); first | done | rfl | (simp only [List.length_drop, List.length_take]; rfl)) ?_; (with_reducible refine (strings_LastIndexByte.calls k a0 47 t117 _ A2.out).mono ?_); rintro e w' ⟨rfl, ⟨nd, rfl⟩⟩; refine ⟨_, rfl, ?_⟩))
   go_ret
   exact ⟨by first | rfl | (simp [errW_none, errW_some] <;> rfl) | (simp only [← hji3]; first | rfl | (simp [errW_none, errW_some] <;> rfl)) | (simp [*, errW_none, errW_some] <;> rfl), by repeat (first | (with_reducible first | exact HB.out | apply below_alloc | apply pw_below_drewN | apply below_drew1) | exact HB.out)⟩
  rw [if_neg c5] at H;exact absurd H (by simp)
 rw [if_neg c4] at H;exact absurd H (by simp)
end Go.Proofs.YtibmfjacfbpfgaaGreatDoor.PNm
namespace Go.Proofs.YtibmfjacfbpfgaaGreatDoor.PNm
open Go.RowKit YtibmfjacfbpfgaaGreatDoorW PrintWords PrintLast PrintMore
attribute [local go_sem] max2_int min2_int max_two min_two max_three min_three max_four min_four   -- for this text's walks alone
def name_Base.f (k : Nat) (a0 : ByteArray) : Option (ByteArray) := (strings_LastIndexByte.f k a0 47).bind fun t118 => (if 0 ≤ (wrap64 (t118 + 1)) then (if (wrap64 (t118 + 1)) ≤ (a0.size : Int) then (some (a0.extract ((wrap64 (t118 + 1)) : Int).toNat a0.size)) else (none)) else (none))
theorem name_Base.mono : ∀ a0 k, LeO (name_Base.f k a0) (name_Base.f (k + 1) a0) := by
 intro a0 k;unfold name_Base.f
 repeat' first
   | (with_reducible exact strings_LastIndexByte.mono _ _ _)
   | (with_reducible exact LeO.refl _)
   | (with_reducible exact LeO.none _)
   | (with_reducible refine LeO.ite ?_ ?_)
   | (with_reducible refine LeO.bind ?_ (fun _ => ?_))
   | exact strings_LastIndexByte.mono _ _ _
   | exact LeO.none _
   | refine LeO.ite ?_ ?_
   | refine LeO.bind ?_ (fun _ => ?_)
theorem name_Base.calls (k : Nat) (a0 : ByteArray) (r : ByteArray) (w : World) (h : name_Base.f k a0 = some r) :
  Calls Tryz.prog 71 #[.string a0] w fun e w' => e = .returned (.string r) ∧ Drawn0 w w' := by
 have H : ((strings_LastIndexByte.f k a0 47).bind fun t118 => (if 0 ≤ (wrap64 (t118 + 1)) then (if (wrap64 (t118 + 1)) ≤ (a0.size : Int) then (some (a0.extract ((wrap64 (t118 + 1)) : Int).toNat a0.size)) else (none)) else (none))) = some r := h;clear h;replace H := Option.bind_eq_some_iff.mp H;obtain ⟨t118, A20, H⟩ := H;replace H : (if 0 ≤ (wrap64 (t118 + 1)) then (if (wrap64 (t118 + 1)) ≤ (a0.size : Int) then (some (a0.extract ((wrap64 (t118 + 1)) : Int).toNat a0.size)) else (none)) else (none)) = some r := H;have A2 := Aside0.mk A20;clear A20;obtain ⟨ji3, hji3⟩ : ∃ j_ : Int, (wrap64 (t118 + 1)) = j_ := ⟨_, rfl⟩;replace H : (if 0 ≤ (ji3) then (if (ji3) ≤ (a0.size : Int) then (some (a0.extract ((ji3) : Int).toNat a0.size)) else (none)) else (none)) = some r := by first | (rw [hji3] at H; exact H) | (simp only [hji3] at H ⊢; exact H)
 (try rw [hji3] at A2)
 have hji3w : (IntKind.i64.wrap (t118 + 1)) = ji3 := (i64_w _).trans hji3
 by_cases c4 : 0 ≤ (ji3)
 ·
  rw [if_pos c4] at H;have c4b0 := eq_true c4;have c4b1 : decide (0 ≤ (ji3)) = true := decide_eq_true c4;clear c4
  by_cases c5 : (ji3) ≤ (a0.size : Int)
  ·
   rw [if_pos c5] at H;have c5b0 := eq_true c5;have c5b1 : decide ((ji3) ≤ (a0.size : Int)) = true := decide_eq_true c5;clear c5;obtain rfl := Option.some.inj H;go_enter Tryz.func71, Tryz.ntmps71
   go_wp2_with (first | ((with_reducible refine gate_callee (f := 101) rfl ?_); refine goesL_ (some 5) rfl rfl Tryz.func101 (by kernel_rfl) rfl #[.string a0, .int .u8 47] rfl (by (try simp only [List.map_toArray, List.map_cons, List.map_nil]); first | done | rfl | (simp only [List.length_drop, List.length_take]; rfl)) ?_; (with_reducible refine (strings_LastIndexByte.calls k a0 47 t118 _ A2.out).mono ?_); rintro e w' ⟨rfl, ⟨nd, rfl⟩⟩; refine ⟨_, rfl, ?_⟩))
   go_ret
   exact ⟨by first | rfl | (simp; done) | (simp only [← hji3] <;> (first | rfl | simp)) | (simp [*]; done), by repeat (first | exact Drawn0.refl _ | apply Drawn0.step)⟩
  rw [if_neg c5] at H;exact absurd H (by simp)
 rw [if_neg c4] at H;exact absurd H (by simp)
end Go.Proofs.YtibmfjacfbpfgaaGreatDoor.PNm
namespace Go.Proofs.YtibmfjacfbpfgaaGreatDoor.PNm
open Go.RowKit YtibmfjacfbpfgaaGreatDoorW PrintWords PrintLast PrintMore
attribute [local go_sem] max2_int min2_int max_two min_two max_three min_three max_four min_four   -- for this text's walks alone
def r_Base.l0 : Nat → ByteArray → Int → Option (ByteArray)
 | 0, _, _ => none
 | k + 1, x0, x3 => if x3 ≥ 0 then (if 0 ≤ x3 then (if x3 < (x0.size : Int) then (if (bt x0 x3) = 47 then (if 0 ≤ (wrap64 (x3 + 1)) then (if (wrap64 (x3 + 1)) ≤ (x0.size : Int) then (some (x0.extract ((wrap64 (x3 + 1)) : Int).toNat x0.size)) else (none)) else (none)) else (r_Base.l0 k x0 (wrap64 (x3 - 1)))) else (none)) else (none)) else (some x0)
def r_Base.f (k : Nat) (a0 : ByteArray) : Option (ByteArray) := r_Base.l0 k a0 (wrap64 ((a0.size : Int) - 1))
theorem r_Base.mono_l : ∀ k, (∀ y0 y1, LeO (r_Base.l0 k y0 y1) (r_Base.l0 (k + 1) y0 y1))
 | 0 => fun _ _ r h => by simp [r_Base.l0] at h
 | k + 1 => by
  have ih0 := r_Base.mono_l k
  ·
   intro y0 y1;unfold r_Base.l0
   repeat' first
   | (with_reducible exact ih0 _ _)
   | (with_reducible exact LeO.refl _)
   | (with_reducible exact LeO.none _)
   | (with_reducible refine LeO.ite ?_ ?_)
   | (with_reducible refine LeO.bind ?_ (fun _ => ?_))
   | exact ih0 _ _
   | exact LeO.none _
   | refine LeO.ite ?_ ?_
   | refine LeO.bind ?_ (fun _ => ?_)
theorem r_Base.mono : ∀ a0 k, LeO (r_Base.f k a0) (r_Base.f (k + 1) a0) := by
 intro a0 k;have ih0 := r_Base.mono_l k;unfold r_Base.f
 repeat' first
   | (with_reducible exact ih0 _ _)
   | (with_reducible exact LeO.refl _)
   | (with_reducible exact LeO.none _)
   | (with_reducible refine LeO.ite ?_ ?_)
   | (with_reducible refine LeO.bind ?_ (fun _ => ?_))
   | exact ih0 _ _
   | exact LeO.none _
   | refine LeO.ite ?_ ?_
   | refine LeO.bind ?_ (fun _ => ?_)
theorem r_Base.calls (k : Nat) (a0 : ByteArray) (r : ByteArray) (w : World) (h : r_Base.f k a0 = some r) :
  Calls Tryz.prog 72 #[.string a0] w fun e w' => e = .returned (.string r) ∧ Drawn0 w w' := by
 have H : (r_Base.l0 k a0 (wrap64 ((a0.size : Int) - 1))) = some r := h;clear h;have H' := Aside0.mk H;clear H;go_enter Tryz.func72, Tryz.ntmps72;go_wp2
 go_loopg [3] k (fun kq v3 w' => ∃ (x3_1 : Int), v3 = .int .i64 x3_1 ∧ Aside0 (r_Base.l0 kq a0 x3_1 = some r) ∧ Aside0 (kq ≤ k) ∧ Drawn0 w w')
 case atStart => exact ⟨(wrap64 ((a0.size : Int) - 1)), (by first | rfl | (simp; done) | (simp [*]; done)), H', ⟨Nat.le_refl _⟩, by repeat (first | exact Drawn0.refl _ | apply Drawn0.step)⟩
 clear H';obtain ⟨x3_1, rfl, HA, HK1, ⟨m1, rfl⟩⟩ := hrel
 cases gk with
 | zero => exact absurd HA.out (by simp [r_Base.l0])
 | succ k1 =>
  have H := HA.out;clear HA;simp only [r_Base.l0] at H
  by_cases c2 : x3_1 ≥ 0
  ·
   rw [if_pos c2] at H;have c2b0 : decide (0 ≤ x3_1) = true := decide_eq_true c2;clear c2
   by_cases c3 : 0 ≤ x3_1
   ·
    rw [if_pos c3] at H;have c3b0 : decide (0 ≤ x3_1) = true := decide_eq_true c3;clear c3
    by_cases c4 : x3_1 < (a0.size : Int)
    ·
     rw [if_pos c4] at H;have c4b0 : decide (x3_1 < (a0.size : Int)) = true := decide_eq_true c4;clear c4
     by_cases c6 : (bt a0 x3_1) = 47
     ·
      rw [if_pos c6] at H;have c6b0 : ((bt a0 x3_1) == 47) = true := beq_iff_eq.mpr c6;have c6b1 : ((bt a0 x3_1) != 47) = false := bne_eq_false_iff_eq.mpr c6;clear c6;obtain ⟨ji7, hji7⟩ : ∃ j_ : Int, (wrap64 (x3_1 + 1)) = j_ := ⟨_, rfl⟩;replace H : (if 0 ≤ (ji7) then (if (ji7) ≤ (a0.size : Int) then (some (a0.extract ((ji7) : Int).toNat a0.size)) else (none)) else (none)) = some r := by first | (rw [hji7] at H; exact H) | (simp only [hji7] at H ⊢; exact H)
      have hji7w : (IntKind.i64.wrap (x3_1 + 1)) = ji7 := (i64_w _).trans hji7
      by_cases c8 : 0 ≤ (ji7)
      ·
       rw [if_pos c8] at H;have c8b0 := eq_true c8;have c8b1 : decide (0 ≤ (ji7)) = true := decide_eq_true c8;clear c8
       by_cases c9 : (ji7) ≤ (a0.size : Int)
       ·
        rw [if_pos c9] at H;have c9b0 := eq_true c9;have c9b1 : decide ((ji7) ≤ (a0.size : Int)) = true := decide_eq_true c9;clear c9;obtain rfl := Option.some.inj H;have p5 : 0 ≤ (x3_1 : Int) := of_decide_eq_true (by first | (with_reducible assumption) | assumption);have q5 : x3_1 < (a0.size : Int) := of_decide_eq_true (by first | (with_reducible assumption) | assumption);have hx5 := bt_at a0 x3_1;replace p5 := eq_true p5;replace q5 := eq_true q5;go_wp2;go_ret
        exact ⟨by first | rfl | (simp; done) | (simp only [← hji7] <;> (first | rfl | simp)) | (simp [*]; done), by repeat (first | exact Drawn0.refl _ | apply Drawn0.step)⟩
       rw [if_neg c9] at H;exact absurd H (by simp)
      rw [if_neg c8] at H;exact absurd H (by simp)
     rw [if_neg c6] at H;have c6b0 : ((bt a0 x3_1) == 47) = false := beq_eq_false_iff_ne.mpr c6;have c6b1 : ((bt a0 x3_1) != 47) = true := bne_iff_ne.mpr c6;have H' := Aside0.mk H;clear H;have p5 : 0 ≤ (x3_1 : Int) := of_decide_eq_true (by first | (with_reducible assumption) | assumption);have q5 : x3_1 < (a0.size : Int) := of_decide_eq_true (by first | (with_reducible assumption) | assumption);have hx5 := bt_at a0 x3_1;replace p5 := eq_true p5;replace q5 := eq_true q5;go_wp2
     go_roundg k1
     case measure => have := HK1.out; omega
     case rel => exact ⟨(wrap64 (x3_1 - 1)), (by first | rfl | (simp; done) | (simp [*]; done)), H', ⟨by have := HK1.out; omega⟩, by repeat (first | exact Drawn0.refl _ | apply Drawn0.step)⟩
    rw [if_neg c4] at H;exact absurd H (by simp)
   rw [if_neg c3] at H;exact absurd H (by simp)
  rw [if_neg c2] at H;have c2b0 : decide (0 ≤ x3_1) = false := decide_eq_false c2;clear c2;obtain rfl := Option.some.inj H;go_wp2;go_ret;exact ⟨by first | rfl | (simp; done) | (simp [*]; done), by repeat (first | exact Drawn0.refl _ | apply Drawn0.step)⟩
end Go.Proofs.YtibmfjacfbpfgaaGreatDoor.PNm
namespace Go.Proofs.YtibmfjacfbpfgaaGreatDoor.PNm
open Go.RowKit YtibmfjacfbpfgaaGreatDoorW PrintWords PrintLast PrintMore
attribute [local go_sem] max2_int min2_int max_two min_two max_three min_three max_four min_four   -- for this text's walks alone
def r_within.f (a0 : ByteArray) (a1 : Int) (a2 : Int) (a3 : Int) : Option (Bool) := if a1 < (a0.size : Int) then (if 0 ≤ a1 then (if (bt a0 a1) ≥ a2 then (some (decide ((bt a0 a1) ≤ a3))) else (some false)) else (none)) else (some false)
theorem r_within.calls (a0 : ByteArray) (a1 : Int) (a2 : Int) (a3 : Int) (r : Bool) (w : World) (h : r_within.f a0 a1 a2 a3 = some r) :
  Calls Tryz.prog 156 #[.string a0, .int .i64 a1, .int .u8 a2, .int .u8 a3] w fun e w' => e = .returned (.bool r) ∧ Drawn0 w w' := by
 have H : (if a1 < (a0.size : Int) then (if 0 ≤ a1 then (if (bt a0 a1) ≥ a2 then (some (decide ((bt a0 a1) ≤ a3))) else (some false)) else (none)) else (some false)) = some r := h;clear h
 by_cases c5 : a1 < (a0.size : Int)
 ·
  rw [if_pos c5] at H;have c5b0 : decide (a1 < (a0.size : Int)) = true := decide_eq_true c5;clear c5
  by_cases c6 : 0 ≤ a1
  ·
   rw [if_pos c6] at H;have c6b0 : decide (0 ≤ a1) = true := decide_eq_true c6;clear c6
   by_cases c8 : (bt a0 a1) ≥ a2
   ·
    rw [if_pos c8] at H;have c8b0 : decide (a2 ≤ (bt a0 a1)) = true := decide_eq_true c8;clear c8;obtain rfl := Option.some.inj H;have p7 : 0 ≤ (a1 : Int) := of_decide_eq_true (by first | (with_reducible assumption) | assumption);have q7 : a1 < (a0.size : Int) := of_decide_eq_true (by first | (with_reducible assumption) | assumption);have hx7 := bt_at a0 a1;replace p7 := eq_true p7;replace q7 := eq_true q7;have p9 : 0 ≤ (a1 : Int) := of_decide_eq_true (by first | (with_reducible assumption) | assumption);have q9 : a1 < (a0.size : Int) := of_decide_eq_true (by first | (with_reducible assumption) | assumption);have hx9 := bt_at a0 a1;replace p9 := eq_true p9;replace q9 := eq_true q9;go_enter Tryz.func156, Tryz.ntmps156;go_wp2;go_ret;exact ⟨by first | rfl | (simp; done) | (simp [*]; done), by repeat (first | exact Drawn0.refl _ | apply Drawn0.step)⟩
   rw [if_neg c8] at H;have c8b0 : decide (a2 ≤ (bt a0 a1)) = false := decide_eq_false c8;clear c8;obtain rfl := Option.some.inj H;have p7 : 0 ≤ (a1 : Int) := of_decide_eq_true (by first | (with_reducible assumption) | assumption);have q7 : a1 < (a0.size : Int) := of_decide_eq_true (by first | (with_reducible assumption) | assumption);have hx7 := bt_at a0 a1;replace p7 := eq_true p7;replace q7 := eq_true q7;go_enter Tryz.func156, Tryz.ntmps156;go_wp2;go_ret;exact ⟨by first | rfl | (simp; done) | (simp [*]; done), by repeat (first | exact Drawn0.refl _ | apply Drawn0.step)⟩
  rw [if_neg c6] at H;exact absurd H (by simp)
 rw [if_neg c5] at H;have c5b0 : decide (a1 < (a0.size : Int)) = false := decide_eq_false c5;clear c5;obtain rfl := Option.some.inj H;go_enter Tryz.func156, Tryz.ntmps156;go_wp2;go_ret;exact ⟨by first | rfl | (simp; done) | (simp [*]; done), by repeat (first | exact Drawn0.refl _ | apply Drawn0.step)⟩
end Go.Proofs.YtibmfjacfbpfgaaGreatDoor.PNm
namespace Go.Proofs.YtibmfjacfbpfgaaGreatDoor.PNm
open Go.RowKit YtibmfjacfbpfgaaGreatDoorW PrintWords PrintLast PrintMore
attribute [local go_sem] max2_int min2_int max_two min_two max_three min_three max_four min_four   -- for this text's walks alone
mutual
def r_One.j0 : Nat → ByteArray → Int → Int → Int → Int → Int → Bool → Option (Int × Int)
 | 0, _, _, _, _, _, _, _ => none
 | k + 1, x0, x1, x6, x7, x8, x9, x24 => if x24 = true then (r_One.j1 k x0 x1 x6 1 x8 x9) else (r_One.j1 k x0 x1 x6 x7 x8 x9)
def r_One.j1 : Nat → ByteArray → Int → Int → Int → Int → Int → Option (Int × Int)
 | 0, _, _, _, _, _, _ => none
 | k + 1, x0, x1, x6, x7, x8, x9 => if x6 ≥ 224 then (r_One.j2 k x0 x1 x6 x7 x8 x9 (decide (x6 ≤ 239))) else (r_One.j2 k x0 x1 x6 x7 x8 x9 false)
def r_One.j2 : Nat → ByteArray → Int → Int → Int → Int → Int → Bool → Option (Int × Int)
 | 0, _, _, _, _, _, _, _ => none
 | k + 1, x0, x1, x6, x7, x8, x9, x30 => if x30 = true then (r_One.j3 k x0 x1 x6 2 x8 x9) else (r_One.j3 k x0 x1 x6 x7 x8 x9)
def r_One.j3 : Nat → ByteArray → Int → Int → Int → Int → Int → Option (Int × Int)
 | 0, _, _, _, _, _, _ => none
 | k + 1, x0, x1, x6, x7, x8, x9 => if x6 ≥ 240 then (r_One.j4 k x0 x1 x6 x7 x8 x9 (decide (x6 ≤ 244))) else (r_One.j4 k x0 x1 x6 x7 x8 x9 false)
def r_One.j4 : Nat → ByteArray → Int → Int → Int → Int → Int → Bool → Option (Int × Int)
 | 0, _, _, _, _, _, _, _ => none
 | k + 1, x0, x1, x6, x7, x8, x9, x36 => if x36 = true then (r_One.j5 k x0 x1 x6 3 x8 x9) else (r_One.j5 k x0 x1 x6 x7 x8 x9)
def r_One.j5 : Nat → ByteArray → Int → Int → Int → Int → Int → Option (Int × Int)
 | 0, _, _, _, _, _, _ => none
 | k + 1, x0, x1, x6, x7, x8, x9 => if x6 = 224 then (r_One.j6 k x0 x1 x6 x7 160 x9) else (r_One.j6 k x0 x1 x6 x7 x8 x9)
def r_One.j6 : Nat → ByteArray → Int → Int → Int → Int → Int → Option (Int × Int)
 | 0, _, _, _, _, _, _ => none
 | k + 1, x0, x1, x6, x7, x8, x9 => if x6 = 237 then (r_One.j7 k x0 x1 x6 x7 x8 159) else (r_One.j7 k x0 x1 x6 x7 x8 x9)
def r_One.j7 : Nat → ByteArray → Int → Int → Int → Int → Int → Option (Int × Int)
 | 0, _, _, _, _, _, _ => none
 | k + 1, x0, x1, x6, x7, x8, x9 => if x6 = 240 then (r_One.j8 k x0 x1 x6 x7 144 x9) else (r_One.j8 k x0 x1 x6 x7 x8 x9)
def r_One.j8 : Nat → ByteArray → Int → Int → Int → Int → Int → Option (Int × Int)
 | 0, _, _, _, _, _, _ => none
 | k + 1, x0, x1, x6, x7, x8, x9 => if x6 = 244 then (r_One.j9 k x0 x1 x6 x7 x8 143) else (r_One.j9 k x0 x1 x6 x7 x8 x9)
def r_One.j9 : Nat → ByteArray → Int → Int → Int → Int → Int → Option (Int × Int)
 | 0, _, _, _, _, _, _ => none
 | k + 1, x0, x1, x6, x7, x8, x9 => if x7 = 0 then (r_One.j10 k x0 x1 x6 x7 true) else ((r_within.f x0 (wrap64 (x1 + 1)) x8 x9).bind fun t119 => (if t119 = true then (if x7 > 1 then ((r_within.f x0 (wrap64 (x1 + 2)) 128 191).bind fun t120 => (if t120 = true then (if x7 > 2 then ((r_within.f x0 (wrap64 (x1 + 3)) 128 191).bind fun t121 => (r_One.j10 k x0 x1 x6 x7 (!t121))) else (r_One.j10 k x0 x1 x6 x7 false)) else (r_One.j10 k x0 x1 x6 x7 true))) else (if x7 > 2 then ((r_within.f x0 (wrap64 (x1 + 3)) 128 191).bind fun t122 => (r_One.j10 k x0 x1 x6 x7 (!t122))) else (r_One.j10 k x0 x1 x6 x7 false))) else (r_One.j10 k x0 x1 x6 x7 true)))
def r_One.j10 : Nat → ByteArray → Int → Int → Int → Bool → Option (Int × Int)
 | 0, _, _, _, _, _ => none
 | k + 1, x0, x1, x6, x7, x77 => if x77 = true then (some ((-1), 1)) else (if x7 = 2 then (r_One.j11 k x0 x1 x6 x7 (Int.tmod (wrap64 (x6)) 16)) else (r_One.j11 k x0 x1 x6 x7 (Int.tmod (wrap64 (x6)) 32)))
def r_One.j11 : Nat → ByteArray → Int → Int → Int → Int → Option (Int × Int)
 | 0, _, _, _, _, _ => none
 | k + 1, x0, x1, x6, x7, x10 => if x7 = 3 then (r_One.j12 k x0 x1 x7 (Int.tmod (wrap64 (x6)) 8)) else (r_One.j12 k x0 x1 x7 x10)
def r_One.j12 : Nat → ByteArray → Int → Int → Int → Option (Int × Int)
 | 0, _, _, _, _ => none
 | k + 1, x0, x1, x7, x10 => r_One.l0 k x0 x1 x7 x10 1
def r_One.l0 : Nat → ByteArray → Int → Int → Int → Int → Option (Int × Int)
 | 0, _, _, _, _, _ => none
 | k + 1, x0, x1, x7, x10, x11 => if x11 ≤ x7 then (if 0 ≤ (wrap64 (x1 + x11)) then (if (wrap64 (x1 + x11)) < (x0.size : Int) then (r_One.l0 k x0 x1 x7 (wrap64 ((wrap64 (x10 * 64)) + (Int.tmod (wrap64 (bt x0 (wrap64 (x1 + x11)))) 64))) (wrap64 (x11 + 1))) else (none)) else (none)) else (some (x10, wrap64 (x7 + 1)))
end
def r_One.f (k : Nat) (a0 : ByteArray) (a1 : Int) : Option (Int × Int) := if 0 ≤ a1 then (if a1 < (a0.size : Int) then (if (bt a0 a1) < 128 then (some (wrap64 (bt a0 a1), 1)) else (if (bt a0 a1) ≥ 194 then (r_One.j0 k a0 a1 (bt a0 a1) 0 128 191 (decide ((bt a0 a1) ≤ 223))) else (r_One.j0 k a0 a1 (bt a0 a1) 0 128 191 false))) else (none)) else (none)
theorem r_One.mono_l : ∀ k, (∀ y0 y1 y2 y3 y4 y5 y6, LeO (r_One.j0 k y0 y1 y2 y3 y4 y5 y6) (r_One.j0 (k + 1) y0 y1 y2 y3 y4 y5 y6)) ∧ (∀ y0 y1 y2 y3 y4 y5, LeO (r_One.j1 k y0 y1 y2 y3 y4 y5) (r_One.j1 (k + 1) y0 y1 y2 y3 y4 y5)) ∧ (∀ y0 y1 y2 y3 y4 y5 y6, LeO (r_One.j2 k y0 y1 y2 y3 y4 y5 y6) (r_One.j2 (k + 1) y0 y1 y2 y3 y4 y5 y6)) ∧ (∀ y0 y1 y2 y3 y4 y5, LeO (r_One.j3 k y0 y1 y2 y3 y4 y5) (r_One.j3 (k + 1) y0 y1 y2 y3 y4 y5)) ∧ (∀ y0 y1 y2 y3 y4 y5 y6, LeO (r_One.j4 k y0 y1 y2 y3 y4 y5 y6) (r_One.j4 (k + 1) y0 y1 y2 y3 y4 y5 y6)) ∧ (∀ y0 y1 y2 y3 y4 y5, LeO (r_One.j5 k y0 y1 y2 y3 y4 y5) (r_One.j5 (k + 1) y0 y1 y2 y3 y4 y5)) ∧ (∀ y0 y1 y2 y3 y4 y5, LeO (r_One.j6 k y0 y1 y2 y3 y4 y5) (r_One.j6 (k + 1) y0 y1 y2 y3 y4 y5)) ∧ (∀ y0 y1 y2 y3 y4 y5, LeO (r_One.j7 k y0 y1 y2 y3 y4 y5) (r_One.j7 (k + 1) y0 y1 y2 y3 y4 y5)) ∧ (∀ y0 y1 y2 y3 y4 y5, LeO (r_One.j8 k y0 y1 y2 y3 y4 y5) (r_One.j8 (k + 1) y0 y1 y2 y3 y4 y5)) ∧ (∀ y0 y1 y2 y3 y4 y5, LeO (r_One.j9 k y0 y1 y2 y3 y4 y5) (r_One.j9 (k + 1) y0 y1 y2 y3 y4 y5)) ∧ (∀ y0 y1 y2 y3 y4, LeO (r_One.j10 k y0 y1 y2 y3 y4) (r_One.j10 (k + 1) y0 y1 y2 y3 y4)) ∧ (∀ y0 y1 y2 y3 y4, LeO (r_One.j11 k y0 y1 y2 y3 y4) (r_One.j11 (k + 1) y0 y1 y2 y3 y4)) ∧ (∀ y0 y1 y2 y3, LeO (r_One.j12 k y0 y1 y2 y3) (r_One.j12 (k + 1) y0 y1 y2 y3)) ∧ (∀ y0 y1 y2 y3 y4, LeO (r_One.l0 k y0 y1 y2 y3 y4) (r_One.l0 (k + 1) y0 y1 y2 y3 y4))
 | 0 => ⟨fun _ _ _ _ _ _ _ r h => by simp [r_One.j0] at h, fun _ _ _ _ _ _ r h => by simp [r_One.j1] at h, fun _ _ _ _ _ _ _ r h => by simp [r_One.j2] at h, fun _ _ _ _ _ _ r h => by simp [r_One.j3] at h, fun _ _ _ _ _ _ _ r h => by simp [r_One.j4] at h, fun _ _ _ _ _ _ r h => by simp [r_One.j5] at h, fun _ _ _ _ _ _ r h => by simp [r_One.j6] at h, fun _ _ _ _ _ _ r h => by simp [r_One.j7] at h, fun _ _ _ _ _ _ r h => by simp [r_One.j8] at h, fun _ _ _ _ _ _ r h => by simp [r_One.j9] at h, fun _ _ _ _ _ r h => by simp [r_One.j10] at h, fun _ _ _ _ _ r h => by simp [r_One.j11] at h, fun _ _ _ _ r h => by simp [r_One.j12] at h, fun _ _ _ _ _ r h => by simp [r_One.l0] at h⟩
 | k + 1 => by
  obtain ⟨ih0, ih1, ih2, ih3, ih4, ih5, ih6, ih7, ih8, ih9, ih10, ih11, ih12, ih13⟩ := r_One.mono_l k;refine ⟨?_, ?_, ?_, ?_, ?_, ?_, ?_, ?_, ?_, ?_, ?_, ?_, ?_, ?_⟩
  all_goals
   intros
   first
   | unfold r_One.j0
   | unfold r_One.j1
   | unfold r_One.j2
   | unfold r_One.j3
   | unfold r_One.j4
   | unfold r_One.j5
   | unfold r_One.j6
   | unfold r_One.j7
   | unfold r_One.j8
   | unfold r_One.j9
   | unfold r_One.j10
   | unfold r_One.j11
   | unfold r_One.j12
   | unfold r_One.l0
   repeat' first
   | (with_reducible exact ih0 _ _ _ _ _ _ _)
   | (with_reducible exact ih1 _ _ _ _ _ _)
   | (with_reducible exact ih2 _ _ _ _ _ _ _)
   | (with_reducible exact ih3 _ _ _ _ _ _)
   | (with_reducible exact ih4 _ _ _ _ _ _ _)
   | (with_reducible exact ih5 _ _ _ _ _ _)
   | (with_reducible exact ih6 _ _ _ _ _ _)
   | (with_reducible exact ih7 _ _ _ _ _ _)
   | (with_reducible exact ih8 _ _ _ _ _ _)
   | (with_reducible exact ih9 _ _ _ _ _ _)
   | (with_reducible exact ih10 _ _ _ _ _)
   | (with_reducible exact ih11 _ _ _ _ _)
   | (with_reducible exact ih12 _ _ _ _)
   | (with_reducible exact ih13 _ _ _ _ _)
   | (with_reducible exact LeO.refl _)
   | (with_reducible exact LeO.none _)
   | (with_reducible refine LeO.ite ?_ ?_)
   | (with_reducible refine LeO.bind ?_ (fun _ => ?_))
   | exact ih0 _ _ _ _ _ _ _
   | exact ih1 _ _ _ _ _ _
   | exact ih2 _ _ _ _ _ _ _
   | exact ih3 _ _ _ _ _ _
   | exact ih4 _ _ _ _ _ _ _
   | exact ih5 _ _ _ _ _ _
   | exact ih6 _ _ _ _ _ _
   | exact ih7 _ _ _ _ _ _
   | exact ih8 _ _ _ _ _ _
   | exact ih9 _ _ _ _ _ _
   | exact ih10 _ _ _ _ _
   | exact ih11 _ _ _ _ _
   | exact ih12 _ _ _ _
   | exact ih13 _ _ _ _ _
   | exact LeO.none _
   | refine LeO.ite ?_ ?_
   | refine LeO.bind ?_ (fun _ => ?_)
theorem r_One.mono : ∀ a0 a1 k, LeO (r_One.f k a0 a1) (r_One.f (k + 1) a0 a1) := by
 intro a0 a1 k;obtain ⟨ih0, ih1, ih2, ih3, ih4, ih5, ih6, ih7, ih8, ih9, ih10, ih11, ih12, ih13⟩ := r_One.mono_l k;unfold r_One.f
 repeat' first
   | (with_reducible exact ih0 _ _ _ _ _ _ _)
   | (with_reducible exact ih1 _ _ _ _ _ _)
   | (with_reducible exact ih2 _ _ _ _ _ _ _)
   | (with_reducible exact ih3 _ _ _ _ _ _)
   | (with_reducible exact ih4 _ _ _ _ _ _ _)
   | (with_reducible exact ih5 _ _ _ _ _ _)
   | (with_reducible exact ih6 _ _ _ _ _ _)
   | (with_reducible exact ih7 _ _ _ _ _ _)
   | (with_reducible exact ih8 _ _ _ _ _ _)
   | (with_reducible exact ih9 _ _ _ _ _ _)
   | (with_reducible exact ih10 _ _ _ _ _)
   | (with_reducible exact ih11 _ _ _ _ _)
   | (with_reducible exact ih12 _ _ _ _)
   | (with_reducible exact ih13 _ _ _ _ _)
   | (with_reducible exact LeO.refl _)
   | (with_reducible exact LeO.none _)
   | (with_reducible refine LeO.ite ?_ ?_)
   | (with_reducible refine LeO.bind ?_ (fun _ => ?_))
   | exact ih0 _ _ _ _ _ _ _
   | exact ih1 _ _ _ _ _ _
   | exact ih2 _ _ _ _ _ _ _
   | exact ih3 _ _ _ _ _ _
   | exact ih4 _ _ _ _ _ _ _
   | exact ih5 _ _ _ _ _ _
   | exact ih6 _ _ _ _ _ _
   | exact ih7 _ _ _ _ _ _
   | exact ih8 _ _ _ _ _ _
   | exact ih9 _ _ _ _ _ _
   | exact ih10 _ _ _ _ _
   | exact ih11 _ _ _ _ _
   | exact ih12 _ _ _ _
   | exact ih13 _ _ _ _ _
   | exact LeO.none _
   | refine LeO.ite ?_ ?_
   | refine LeO.bind ?_ (fun _ => ?_)
theorem r_One.calls (k : Nat) (a0 : ByteArray) (a1 : Int) (r1 : Int) (r2 : Int) (w : World) (h : r_One.f k a0 a1 = some (r1, r2)) :
  Calls Tryz.prog 131 #[.string a0, .int .i64 a1] w fun e w' => e = .returned (.tuple #[.int .i64 r1, .int .i64 r2]) ∧ Drawn0 w w' := by
 have H : (if 0 ≤ a1 then (if a1 < (a0.size : Int) then (if (bt a0 a1) < 128 then (some (wrap64 (bt a0 a1), 1)) else (if (bt a0 a1) ≥ 194 then (r_One.j0 k a0 a1 (bt a0 a1) 0 128 191 (decide ((bt a0 a1) ≤ 223))) else (r_One.j0 k a0 a1 (bt a0 a1) 0 128 191 false))) else (none)) else (none)) = some (r1, r2) := h;clear h
 by_cases c3 : 0 ≤ a1
 ·
  rw [if_pos c3] at H;have c3b0 : decide (0 ≤ a1) = true := decide_eq_true c3;clear c3
  by_cases c4 : a1 < (a0.size : Int)
  ·
   rw [if_pos c4] at H;have c4b0 : decide (a1 < (a0.size : Int)) = true := decide_eq_true c4;clear c4
   by_cases c6 : (bt a0 a1) < 128
   ·
    rw [if_pos c6] at H;have c6b0 : decide ((bt a0 a1) < 128) = true := decide_eq_true c6;clear c6;simp only [Option.some.injEq, Prod.mk.injEq] at H;obtain ⟨rfl, rfl⟩ := H;have p5 : 0 ≤ (a1 : Int) := of_decide_eq_true (by first | (with_reducible assumption) | assumption);have q5 : a1 < (a0.size : Int) := of_decide_eq_true (by first | (with_reducible assumption) | assumption);have hx5 := bt_at a0 a1;replace p5 := eq_true p5;replace q5 := eq_true q5;go_enter Tryz.func131, Tryz.ntmps131;go_wp2;go_ret2;exact ⟨by first | rfl | (simp; done) | (simp [*]; done), by repeat (first | exact Drawn0.refl _ | apply Drawn0.step)⟩
   rw [if_neg c6] at H;have c6b0 : decide ((bt a0 a1) < 128) = false := decide_eq_false c6;clear c6;have HC7 := Aside0.mk H;clear H;have p5 : 0 ≤ (a1 : Int) := of_decide_eq_true (by first | (with_reducible assumption) | assumption);have q5 : a1 < (a0.size : Int) := of_decide_eq_true (by first | (with_reducible assumption) | assumption);have hx5 := bt_at a0 a1;replace p5 := eq_true p5;replace q5 := eq_true q5;go_enter Tryz.func131, Tryz.ntmps131;go_upto_region 6 with (fail)
   go_cut [24] (fun v24 wc => ∃ (kq : Nat) (x24_6 : Bool), v24 = .bool x24_6 ∧ Aside0 (r_One.j0 kq a0 a1 (bt a0 a1) 0 128 191 x24_6 = some (r1, r2)) ∧ Aside0 (kq ≤ k) ∧ Drawn0 w wc)
   case first =>
    have H := HC7.out;clear HC7
    by_cases c8 : (bt a0 a1) ≥ 194
    ·
     rw [if_pos c8] at H;have c8b0 : decide (194 ≤ (bt a0 a1)) = true := decide_eq_true c8;clear c8
     (first | rw [c8b0] | (simp only [i64_w, i32_w]; rw [c8b0]) | skip)
     have H' := Aside0.mk H;clear H;go_wp2;go_meet
     case rel => exact ⟨_, (decide ((bt a0 a1) ≤ 223)), (by first | rfl | (simp; done) | (simp [*]; done)), H', ⟨by first | omega | exact Nat.le_refl _⟩, by repeat (first | exact Drawn0.refl _ | apply Drawn0.step)⟩
    rw [if_neg c8] at H;have c8b0 : decide (194 ≤ (bt a0 a1)) = false := decide_eq_false c8;clear c8
    (first | rw [c8b0] | (simp only [i64_w, i32_w]; rw [c8b0]) | skip)
    have H' := Aside0.mk H;clear H;go_wp2;go_meet
    case rel => exact ⟨_, (false), (by first | rfl | (simp; done) | (simp [*]; done)), H', ⟨by first | omega | exact Nat.le_refl _⟩, by repeat (first | exact Drawn0.refl _ | apply Drawn0.step)⟩
   clear HC7;obtain ⟨kq, x24_6, rfl, HA, HJ6, ⟨mc6, rfl⟩⟩ := hcut
   cases kq with
   | zero => exact absurd HA.out (by simp [r_One.j0])
   | succ kj6 =>
    have H := HA.out;clear HA;simp only [r_One.j0] at H;have HC9 := Aside0.mk H;clear H
    go_upto_if 24 with (fail)
    go_cut [7] (fun v7 wc => ∃ (kq : Nat) (x7_8 : Int), v7 = .int .i64 x7_8 ∧ Aside0 (r_One.j1 kq a0 a1 (bt a0 a1) x7_8 128 191 = some (r1, r2)) ∧ Aside0 (kq ≤ kj6) ∧ Drawn0 w wc)
    case first =>
     have H := HC9.out;clear HC9
     by_cases c10 : x24_6 = true
     ·
      subst c10;have H1 : (r_One.j1 kj6 a0 a1 (bt a0 a1) 1 128 191) = some (r1, r2) := by rw [if_pos rfl] at H; exact H
      clear H;have H := H1;clear H1;have H' := Aside0.mk H;clear H;go_wp2;go_meet
      case rel => exact ⟨_, (1), (by first | rfl | (simp; done) | (simp [*]; done)), H', ⟨by have := HJ6.out; first | omega | exact Nat.le_refl _⟩, by repeat (first | exact Drawn0.refl _ | apply Drawn0.step)⟩
     replace c10 := Bool.eq_false_iff.mpr c10;subst c10;have H1 : (r_One.j1 kj6 a0 a1 (bt a0 a1) 0 128 191) = some (r1, r2) := by rw [if_neg (show ¬ (false = true) by decide)] at H; exact H
     clear H;have H := H1;clear H1;have H' := Aside0.mk H;clear H;go_wp2;go_meet
     case rel => exact ⟨_, (0), (by first | rfl | (simp; done) | (simp [*]; done)), H', ⟨by have := HJ6.out; first | omega | exact Nat.le_refl _⟩, by repeat (first | exact Drawn0.refl _ | apply Drawn0.step)⟩
    clear HC9;obtain ⟨kq, x7_8, rfl, HA, HJ8, ⟨mc8, rfl⟩⟩ := hcut
    cases kq with
    | zero => exact absurd HA.out (by simp [r_One.j1])
    | succ kj8 =>
     have H := HA.out;clear HA;simp only [r_One.j1] at H;have HC11 := Aside0.mk H;clear H;go_upto_region 8 with (fail)
     go_cut [30] (fun v30 wc => ∃ (kq : Nat) (x30_10 : Bool), v30 = .bool x30_10 ∧ Aside0 (r_One.j2 kq a0 a1 (bt a0 a1) x7_8 128 191 x30_10 = some (r1, r2)) ∧ Aside0 (kq ≤ kj8) ∧ Drawn0 w wc)
     case first =>
      have H := HC11.out;clear HC11
      by_cases c12 : (bt a0 a1) ≥ 224
      ·
       rw [if_pos c12] at H;have c12b0 : decide (224 ≤ (bt a0 a1)) = true := decide_eq_true c12;clear c12
       (first | rw [c12b0] | (simp only [i64_w, i32_w]; rw [c12b0]) | skip)
       have H' := Aside0.mk H;clear H;go_wp2;go_meet
       case rel => exact ⟨_, (decide ((bt a0 a1) ≤ 239)), (by first | rfl | (simp; done) | (simp [*]; done)), H', ⟨by have := HJ6.out; have := HJ8.out; first | omega | exact Nat.le_refl _⟩, by repeat (first | exact Drawn0.refl _ | apply Drawn0.step)⟩
      rw [if_neg c12] at H;have c12b0 : decide (224 ≤ (bt a0 a1)) = false := decide_eq_false c12;clear c12
      (first | rw [c12b0] | (simp only [i64_w, i32_w]; rw [c12b0]) | skip)
      have H' := Aside0.mk H;clear H;go_wp2;go_meet
      case rel => exact ⟨_, (false), (by first | rfl | (simp; done) | (simp [*]; done)), H', ⟨by have := HJ6.out; have := HJ8.out; first | omega | exact Nat.le_refl _⟩, by repeat (first | exact Drawn0.refl _ | apply Drawn0.step)⟩
     clear HC11;obtain ⟨kq, x30_10, rfl, HA, HJ10, ⟨mc10, rfl⟩⟩ := hcut
     cases kq with
     | zero => exact absurd HA.out (by simp [r_One.j2])
     | succ kj10 =>
      have H := HA.out;clear HA;simp only [r_One.j2] at H;have HC13 := Aside0.mk H;clear H
      go_upto_if 30 with (fail)
      go_cut [7] (fun v7 wc => ∃ (kq : Nat) (x7_12 : Int), v7 = .int .i64 x7_12 ∧ Aside0 (r_One.j3 kq a0 a1 (bt a0 a1) x7_12 128 191 = some (r1, r2)) ∧ Aside0 (kq ≤ kj10) ∧ Drawn0 w wc)
      case first =>
       have H := HC13.out;clear HC13
       by_cases c14 : x30_10 = true
       ·
        subst c14;have H1 : (r_One.j3 kj10 a0 a1 (bt a0 a1) 2 128 191) = some (r1, r2) := by rw [if_pos rfl] at H; exact H
        clear H;have H := H1;clear H1;have H' := Aside0.mk H;clear H;go_wp2;go_meet
        case rel => exact ⟨_, (2), (by first | rfl | (simp; done) | (simp [*]; done)), H', ⟨by have := HJ6.out; have := HJ8.out; have := HJ10.out; first | omega | exact Nat.le_refl _⟩, by repeat (first | exact Drawn0.refl _ | apply Drawn0.step)⟩
       replace c14 := Bool.eq_false_iff.mpr c14;subst c14;have H1 : (r_One.j3 kj10 a0 a1 (bt a0 a1) x7_8 128 191) = some (r1, r2) := by rw [if_neg (show ¬ (false = true) by decide)] at H; exact H
       clear H;have H := H1;clear H1;have H' := Aside0.mk H;clear H;go_wp2;go_meet
       case rel => exact ⟨_, (x7_8), (by first | rfl | (simp; done) | (simp [*]; done)), H', ⟨by have := HJ6.out; have := HJ8.out; have := HJ10.out; first | omega | exact Nat.le_refl _⟩, by repeat (first | exact Drawn0.refl _ | apply Drawn0.step)⟩
      clear HC13;obtain ⟨kq, x7_12, rfl, HA, HJ12, ⟨mc12, rfl⟩⟩ := hcut
      cases kq with
      | zero => exact absurd HA.out (by simp [r_One.j3])
      | succ kj12 =>
       have H := HA.out;clear HA;simp only [r_One.j3] at H;have HC15 := Aside0.mk H;clear H;go_upto_region 10 with (fail)
       go_cut [36] (fun v36 wc => ∃ (kq : Nat) (x36_14 : Bool), v36 = .bool x36_14 ∧ Aside0 (r_One.j4 kq a0 a1 (bt a0 a1) x7_12 128 191 x36_14 = some (r1, r2)) ∧ Aside0 (kq ≤ kj12) ∧ Drawn0 w wc)
       case first =>
        have H := HC15.out;clear HC15
        by_cases c16 : (bt a0 a1) ≥ 240
        ·
         rw [if_pos c16] at H;have c16b0 : decide (240 ≤ (bt a0 a1)) = true := decide_eq_true c16;clear c16
         (first | rw [c16b0] | (simp only [i64_w, i32_w]; rw [c16b0]) | skip)
         have H' := Aside0.mk H;clear H;go_wp2;go_meet
         case rel => exact ⟨_, (decide ((bt a0 a1) ≤ 244)), (by first | rfl | (simp; done) | (simp [*]; done)), H', ⟨by have := HJ6.out; have := HJ8.out; have := HJ10.out; have := HJ12.out; first | omega | exact Nat.le_refl _⟩, by repeat (first | exact Drawn0.refl _ | apply Drawn0.step)⟩
        rw [if_neg c16] at H;have c16b0 : decide (240 ≤ (bt a0 a1)) = false := decide_eq_false c16;clear c16
        (first | rw [c16b0] | (simp only [i64_w, i32_w]; rw [c16b0]) | skip)
        have H' := Aside0.mk H;clear H;go_wp2;go_meet
        case rel => exact ⟨_, (false), (by first | rfl | (simp; done) | (simp [*]; done)), H', ⟨by have := HJ6.out; have := HJ8.out; have := HJ10.out; have := HJ12.out; first | omega | exact Nat.le_refl _⟩, by repeat (first | exact Drawn0.refl _ | apply Drawn0.step)⟩
       clear HC15;obtain ⟨kq, x36_14, rfl, HA, HJ14, ⟨mc14, rfl⟩⟩ := hcut
       cases kq with
       | zero => exact absurd HA.out (by simp [r_One.j4])
       | succ kj14 =>
        have H := HA.out;clear HA;simp only [r_One.j4] at H;have HC17 := Aside0.mk H;clear H
        go_upto_if 36 with (fail)
        go_cut [7] (fun v7 wc => ∃ (kq : Nat) (x7_16 : Int), v7 = .int .i64 x7_16 ∧ Aside0 (r_One.j5 kq a0 a1 (bt a0 a1) x7_16 128 191 = some (r1, r2)) ∧ Aside0 (kq ≤ kj14) ∧ Drawn0 w wc)
        case first =>
         have H := HC17.out;clear HC17
         by_cases c18 : x36_14 = true
         ·
          subst c18;have H1 : (r_One.j5 kj14 a0 a1 (bt a0 a1) 3 128 191) = some (r1, r2) := by rw [if_pos rfl] at H; exact H
          clear H;have H := H1;clear H1;have H' := Aside0.mk H;clear H;go_wp2;go_meet
          case rel => exact ⟨_, (3), (by first | rfl | (simp; done) | (simp [*]; done)), H', ⟨by have := HJ6.out; have := HJ8.out; have := HJ10.out; have := HJ12.out; have := HJ14.out; first | omega | exact Nat.le_refl _⟩, by repeat (first | exact Drawn0.refl _ | apply Drawn0.step)⟩
         replace c18 := Bool.eq_false_iff.mpr c18;subst c18;have H1 : (r_One.j5 kj14 a0 a1 (bt a0 a1) x7_12 128 191) = some (r1, r2) := by rw [if_neg (show ¬ (false = true) by decide)] at H; exact H
         clear H;have H := H1;clear H1;have H' := Aside0.mk H;clear H;go_wp2;go_meet
         case rel => exact ⟨_, (x7_12), (by first | rfl | (simp; done) | (simp [*]; done)), H', ⟨by have := HJ6.out; have := HJ8.out; have := HJ10.out; have := HJ12.out; have := HJ14.out; first | omega | exact Nat.le_refl _⟩, by repeat (first | exact Drawn0.refl _ | apply Drawn0.step)⟩
        clear HC17;obtain ⟨kq, x7_16, rfl, HA, HJ16, ⟨mc16, rfl⟩⟩ := hcut
        cases kq with
        | zero => exact absurd HA.out (by simp [r_One.j5])
        | succ kj16 =>
         have H := HA.out;clear HA;simp only [r_One.j5] at H;have HC19 := Aside0.mk H;clear H
         go_upto_if 38 with (fail)
         go_cut [8] (fun v8 wc => ∃ (kq : Nat) (x8_18 : Int), v8 = .int .u8 x8_18 ∧ Aside0 (r_One.j6 kq a0 a1 (bt a0 a1) x7_16 x8_18 191 = some (r1, r2)) ∧ Aside0 (kq ≤ kj16) ∧ Drawn0 w wc)
         case first =>
          have H := HC19.out;clear HC19
          by_cases c20 : (bt a0 a1) = 224
          ·
           rw [if_pos c20] at H;have c20b0 : ((bt a0 a1) == 224) = true := beq_iff_eq.mpr c20;have c20b1 : ((bt a0 a1) != 224) = false := bne_eq_false_iff_eq.mpr c20;clear c20
           (first | rw [c20b0] | (simp only [i64_w, i32_w]; rw [c20b0]) | skip)
           have H' := Aside0.mk H;clear H;go_wp2;go_meet
           case rel => exact ⟨_, (160), (by first | rfl | (simp; done) | (simp [*]; done)), H', ⟨by have := HJ6.out; have := HJ8.out; have := HJ10.out; have := HJ12.out; have := HJ14.out; have := HJ16.out; first | omega | exact Nat.le_refl _⟩, by repeat (first | exact Drawn0.refl _ | apply Drawn0.step)⟩
          rw [if_neg c20] at H;have c20b0 : ((bt a0 a1) == 224) = false := beq_eq_false_iff_ne.mpr c20;have c20b1 : ((bt a0 a1) != 224) = true := bne_iff_ne.mpr c20
          (first | rw [c20b0] | (simp only [i64_w, i32_w]; rw [c20b0]) | skip)
          have H' := Aside0.mk H;clear H;go_wp2;go_meet
          case rel => exact ⟨_, (128), (by first | rfl | (simp; done) | (simp [*]; done)), H', ⟨by have := HJ6.out; have := HJ8.out; have := HJ10.out; have := HJ12.out; have := HJ14.out; have := HJ16.out; first | omega | exact Nat.le_refl _⟩, by repeat (first | exact Drawn0.refl _ | apply Drawn0.step)⟩
         clear HC19;obtain ⟨kq, x8_18, rfl, HA, HJ18, ⟨mc18, rfl⟩⟩ := hcut
         cases kq with
         | zero => exact absurd HA.out (by simp [r_One.j6])
         | succ kj18 =>
          have H := HA.out;clear HA;simp only [r_One.j6] at H;have HC21 := Aside0.mk H;clear H
          go_upto_if 40 with (fail)
          go_cut [9] (fun v9 wc => ∃ (kq : Nat) (x9_20 : Int), v9 = .int .u8 x9_20 ∧ Aside0 (r_One.j7 kq a0 a1 (bt a0 a1) x7_16 x8_18 x9_20 = some (r1, r2)) ∧ Aside0 (kq ≤ kj18) ∧ Drawn0 w wc)
          case first =>
           have H := HC21.out;clear HC21
           by_cases c22 : (bt a0 a1) = 237
           ·
            rw [if_pos c22] at H;have c22b0 : ((bt a0 a1) == 237) = true := beq_iff_eq.mpr c22;have c22b1 : ((bt a0 a1) != 237) = false := bne_eq_false_iff_eq.mpr c22;clear c22
            (first | rw [c22b0] | (simp only [i64_w, i32_w]; rw [c22b0]) | skip)
            have H' := Aside0.mk H;clear H;go_wp2;go_meet
            case rel => exact ⟨_, (159), (by first | rfl | (simp; done) | (simp [*]; done)), H', ⟨by have := HJ6.out; have := HJ8.out; have := HJ10.out; have := HJ12.out; have := HJ14.out; have := HJ16.out; have := HJ18.out; first | omega | exact Nat.le_refl _⟩, by repeat (first | exact Drawn0.refl _ | apply Drawn0.step)⟩
           rw [if_neg c22] at H;have c22b0 : ((bt a0 a1) == 237) = false := beq_eq_false_iff_ne.mpr c22;have c22b1 : ((bt a0 a1) != 237) = true := bne_iff_ne.mpr c22
           (first | rw [c22b0] | (simp only [i64_w, i32_w]; rw [c22b0]) | skip)
           have H' := Aside0.mk H;clear H;go_wp2;go_meet
           case rel => exact ⟨_, (191), (by first | rfl | (simp; done) | (simp [*]; done)), H', ⟨by have := HJ6.out; have := HJ8.out; have := HJ10.out; have := HJ12.out; have := HJ14.out; have := HJ16.out; have := HJ18.out; first | omega | exact Nat.le_refl _⟩, by repeat (first | exact Drawn0.refl _ | apply Drawn0.step)⟩
          clear HC21;obtain ⟨kq, x9_20, rfl, HA, HJ20, ⟨mc20, rfl⟩⟩ := hcut
          cases kq with
          | zero => exact absurd HA.out (by simp [r_One.j7])
          | succ kj20 =>
           have H := HA.out;clear HA;simp only [r_One.j7] at H;have HC23 := Aside0.mk H;clear H
           go_upto_if 42 with (fail)
           go_cut [8] (fun v8 wc => ∃ (kq : Nat) (x8_22 : Int), v8 = .int .u8 x8_22 ∧ Aside0 (r_One.j8 kq a0 a1 (bt a0 a1) x7_16 x8_22 x9_20 = some (r1, r2)) ∧ Aside0 (kq ≤ kj20) ∧ Drawn0 w wc)
           case first =>
            have H := HC23.out;clear HC23
            by_cases c24 : (bt a0 a1) = 240
            ·
             rw [if_pos c24] at H;have c24b0 : ((bt a0 a1) == 240) = true := beq_iff_eq.mpr c24;have c24b1 : ((bt a0 a1) != 240) = false := bne_eq_false_iff_eq.mpr c24;clear c24
             (first | rw [c24b0] | (simp only [i64_w, i32_w]; rw [c24b0]) | skip)
             have H' := Aside0.mk H;clear H;go_wp2;go_meet
             case rel => exact ⟨_, (144), (by first | rfl | (simp; done) | (simp [*]; done)), H', ⟨by have := HJ6.out; have := HJ8.out; have := HJ10.out; have := HJ12.out; have := HJ14.out; have := HJ16.out; have := HJ18.out; have := HJ20.out; first | omega | exact Nat.le_refl _⟩, by repeat (first | exact Drawn0.refl _ | apply Drawn0.step)⟩
            rw [if_neg c24] at H;have c24b0 : ((bt a0 a1) == 240) = false := beq_eq_false_iff_ne.mpr c24;have c24b1 : ((bt a0 a1) != 240) = true := bne_iff_ne.mpr c24
            (first | rw [c24b0] | (simp only [i64_w, i32_w]; rw [c24b0]) | skip)
            have H' := Aside0.mk H;clear H;go_wp2;go_meet
            case rel => exact ⟨_, (x8_18), (by first | rfl | (simp; done) | (simp [*]; done)), H', ⟨by have := HJ6.out; have := HJ8.out; have := HJ10.out; have := HJ12.out; have := HJ14.out; have := HJ16.out; have := HJ18.out; have := HJ20.out; first | omega | exact Nat.le_refl _⟩, by repeat (first | exact Drawn0.refl _ | apply Drawn0.step)⟩
           clear HC23;obtain ⟨kq, x8_22, rfl, HA, HJ22, ⟨mc22, rfl⟩⟩ := hcut
           cases kq with
           | zero => exact absurd HA.out (by simp [r_One.j8])
           | succ kj22 =>
            have H := HA.out;clear HA;simp only [r_One.j8] at H;have HC25 := Aside0.mk H;clear H
            go_upto_if 44 with (fail)
            go_cut [9] (fun v9 wc => ∃ (kq : Nat) (x9_24 : Int), v9 = .int .u8 x9_24 ∧ Aside0 (r_One.j9 kq a0 a1 (bt a0 a1) x7_16 x8_22 x9_24 = some (r1, r2)) ∧ Aside0 (kq ≤ kj22) ∧ Drawn0 w wc)
            case first =>
             have H := HC25.out;clear HC25
             by_cases c26 : (bt a0 a1) = 244
             ·
              rw [if_pos c26] at H;have c26b0 : ((bt a0 a1) == 244) = true := beq_iff_eq.mpr c26;have c26b1 : ((bt a0 a1) != 244) = false := bne_eq_false_iff_eq.mpr c26;clear c26
              (first | rw [c26b0] | (simp only [i64_w, i32_w]; rw [c26b0]) | skip)
              have H' := Aside0.mk H;clear H;go_wp2;go_meet
              case rel => exact ⟨_, (143), (by first | rfl | (simp; done) | (simp [*]; done)), H', ⟨by have := HJ6.out; have := HJ8.out; have := HJ10.out; have := HJ12.out; have := HJ14.out; have := HJ16.out; have := HJ18.out; have := HJ20.out; have := HJ22.out; first | omega | exact Nat.le_refl _⟩, by repeat (first | exact Drawn0.refl _ | apply Drawn0.step)⟩
             rw [if_neg c26] at H;have c26b0 : ((bt a0 a1) == 244) = false := beq_eq_false_iff_ne.mpr c26;have c26b1 : ((bt a0 a1) != 244) = true := bne_iff_ne.mpr c26
             (first | rw [c26b0] | (simp only [i64_w, i32_w]; rw [c26b0]) | skip)
             have H' := Aside0.mk H;clear H;go_wp2;go_meet
             case rel => exact ⟨_, (x9_20), (by first | rfl | (simp; done) | (simp [*]; done)), H', ⟨by have := HJ6.out; have := HJ8.out; have := HJ10.out; have := HJ12.out; have := HJ14.out; have := HJ16.out; have := HJ18.out; have := HJ20.out; have := HJ22.out; first | omega | exact Nat.le_refl _⟩, by repeat (first | exact Drawn0.refl _ | apply Drawn0.step)⟩
            clear HC25;obtain ⟨kq, x9_24, rfl, HA, HJ24, ⟨mc24, rfl⟩⟩ := hcut
            cases kq with
            | zero => exact absurd HA.out (by simp [r_One.j9])
            | succ kj24 =>
             have H := HA.out;clear HA;simp only [r_One.j9] at H;have HC27 := Aside0.mk H;clear H;go_upto_region 20 with (fail)
             go_cut [77] (fun v77 wc => ∃ (kq : Nat) (x77_26 : Bool), v77 = .bool x77_26 ∧ Aside0 (r_One.j10 kq a0 a1 (bt a0 a1) x7_16 x77_26 = some (r1, r2)) ∧ Aside0 (kq ≤ kj24) ∧ Drawn0 w wc)
             case first =>
              have H := HC27.out;clear HC27
              by_cases c28 : x7_16 = 0
              ·
               rw [if_pos c28] at H;have c28b0 : (x7_16 == 0) = true := beq_iff_eq.mpr c28;have c28b1 : (x7_16 != 0) = false := bne_eq_false_iff_eq.mpr c28;clear c28
               (first | rw [c28b0] | (simp only [i64_w, i32_w]; rw [c28b0]) | skip)
               have H' := Aside0.mk H;clear H;go_wp2;go_meet
               case rel => exact ⟨_, (true), (by first | rfl | (simp; done) | (simp [*]; done)), H', ⟨by have := HJ6.out; have := HJ8.out; have := HJ10.out; have := HJ12.out; have := HJ14.out; have := HJ16.out; have := HJ18.out; have := HJ20.out; have := HJ22.out; have := HJ24.out; first | omega | exact Nat.le_refl _⟩, by repeat (first | exact Drawn0.refl _ | apply Drawn0.step)⟩
              rw [if_neg c28] at H;have c28b0 : (x7_16 == 0) = false := beq_eq_false_iff_ne.mpr c28;have c28b1 : (x7_16 != 0) = true := bne_iff_ne.mpr c28
              (first | rw [c28b0] | (simp only [i64_w, i32_w]; rw [c28b0]) | skip)
              replace H := Option.bind_eq_some_iff.mp H;obtain ⟨t119, A290, H⟩ := H;replace H : (if t119 = true then (if x7_16 > 1 then ((r_within.f a0 (wrap64 (a1 + 2)) 128 191).bind fun t120 => (if t120 = true then (if x7_16 > 2 then ((r_within.f a0 (wrap64 (a1 + 3)) 128 191).bind fun t121 => (r_One.j10 kj24 a0 a1 (bt a0 a1) x7_16 (!t121))) else (r_One.j10 kj24 a0 a1 (bt a0 a1) x7_16 false)) else (r_One.j10 kj24 a0 a1 (bt a0 a1) x7_16 true))) else (if x7_16 > 2 then ((r_within.f a0 (wrap64 (a1 + 3)) 128 191).bind fun t122 => (r_One.j10 kj24 a0 a1 (bt a0 a1) x7_16 (!t122))) else (r_One.j10 kj24 a0 a1 (bt a0 a1) x7_16 false))) else (r_One.j10 kj24 a0 a1 (bt a0 a1) x7_16 true)) = some (r1, r2) := H;have A29 := Aside0.mk A290;clear A290
              by_cases c30 : t119 = true
              ·
               subst c30;have H1 : (if x7_16 > 1 then ((r_within.f a0 (wrap64 (a1 + 2)) 128 191).bind fun t120 => (if t120 = true then (if x7_16 > 2 then ((r_within.f a0 (wrap64 (a1 + 3)) 128 191).bind fun t121 => (r_One.j10 kj24 a0 a1 (bt a0 a1) x7_16 (!t121))) else (r_One.j10 kj24 a0 a1 (bt a0 a1) x7_16 false)) else (r_One.j10 kj24 a0 a1 (bt a0 a1) x7_16 true))) else (if x7_16 > 2 then ((r_within.f a0 (wrap64 (a1 + 3)) 128 191).bind fun t122 => (r_One.j10 kj24 a0 a1 (bt a0 a1) x7_16 (!t122))) else (r_One.j10 kj24 a0 a1 (bt a0 a1) x7_16 false))) = some (r1, r2) := by rw [if_pos rfl] at H; exact H
               clear H;have H := H1;clear H1
               by_cases c31 : x7_16 > 1
               ·
                rw [if_pos c31] at H;have c31b0 : decide (1 < x7_16) = true := decide_eq_true c31;clear c31;replace H := Option.bind_eq_some_iff.mp H;obtain ⟨t120, A320, H⟩ := H;replace H : (if t120 = true then (if x7_16 > 2 then ((r_within.f a0 (wrap64 (a1 + 3)) 128 191).bind fun t121 => (r_One.j10 kj24 a0 a1 (bt a0 a1) x7_16 (!t121))) else (r_One.j10 kj24 a0 a1 (bt a0 a1) x7_16 false)) else (r_One.j10 kj24 a0 a1 (bt a0 a1) x7_16 true)) = some (r1, r2) := H;have A32 := Aside0.mk A320;clear A320
                by_cases c33 : t120 = true
                ·
                 subst c33;have H1 : (if x7_16 > 2 then ((r_within.f a0 (wrap64 (a1 + 3)) 128 191).bind fun t121 => (r_One.j10 kj24 a0 a1 (bt a0 a1) x7_16 (!t121))) else (r_One.j10 kj24 a0 a1 (bt a0 a1) x7_16 false)) = some (r1, r2) := by rw [if_pos rfl] at H; exact H
                 clear H;have H := H1;clear H1
                 by_cases c34 : x7_16 > 2
                 ·
                  rw [if_pos c34] at H;have c34b0 : decide (2 < x7_16) = true := decide_eq_true c34;clear c34;replace H := Option.bind_eq_some_iff.mp H;obtain ⟨t121, A350, H⟩ := H;replace H : (r_One.j10 kj24 a0 a1 (bt a0 a1) x7_16 (!t121)) = some (r1, r2) := H;have A35 := Aside0.mk A350;clear A350;have H' := Aside0.mk H;clear H
                  go_wp2_with (first | (go_at_call 156; (with_reducible refine (r_within.calls a0 (wrap64 (a1 + 1)) x8_22 x9_24 true _ A29.out).mono ?_); rintro e w' ⟨rfl, ⟨nd, rfl⟩⟩) | (go_at_call 156; (with_reducible refine (r_within.calls a0 (wrap64 (a1 + 2)) 128 191 true _ A32.out).mono ?_); rintro e w' ⟨rfl, ⟨nd, rfl⟩⟩) | (go_at_call 156; (with_reducible refine (r_within.calls a0 (wrap64 (a1 + 3)) 128 191 t121 _ A35.out).mono ?_); rintro e w' ⟨rfl, ⟨nd, rfl⟩⟩))
                  go_meet
                  case rel => exact ⟨_, (!t121), (by first | rfl | (simp; done) | (simp [*]; done)), H', ⟨by have := HJ6.out; have := HJ8.out; have := HJ10.out; have := HJ12.out; have := HJ14.out; have := HJ16.out; have := HJ18.out; have := HJ20.out; have := HJ22.out; have := HJ24.out; first | omega | exact Nat.le_refl _⟩, by repeat (first | exact Drawn0.refl _ | apply Drawn0.step)⟩
                 rw [if_neg c34] at H;have c34b0 : decide (2 < x7_16) = false := decide_eq_false c34;clear c34;have H' := Aside0.mk H;clear H
                 go_wp2_with (first | (go_at_call 156; (with_reducible refine (r_within.calls a0 (wrap64 (a1 + 1)) x8_22 x9_24 true _ A29.out).mono ?_); rintro e w' ⟨rfl, ⟨nd, rfl⟩⟩) | (go_at_call 156; (with_reducible refine (r_within.calls a0 (wrap64 (a1 + 2)) 128 191 true _ A32.out).mono ?_); rintro e w' ⟨rfl, ⟨nd, rfl⟩⟩))
                 go_meet
                 case rel => exact ⟨_, (false), (by first | rfl | (simp; done) | (simp [*]; done)), H', ⟨by have := HJ6.out; have := HJ8.out; have := HJ10.out; have := HJ12.out; have := HJ14.out; have := HJ16.out; have := HJ18.out; have := HJ20.out; have := HJ22.out; have := HJ24.out; first | omega | exact Nat.le_refl _⟩, by repeat (first | exact Drawn0.refl _ | apply Drawn0.step)⟩
                replace c33 := Bool.eq_false_iff.mpr c33;subst c33;have H1 : (r_One.j10 kj24 a0 a1 (bt a0 a1) x7_16 true) = some (r1, r2) := by rw [if_neg (show ¬ (false = true) by decide)] at H; exact H
                clear H;have H := H1;clear H1;have H' := Aside0.mk H;clear H
                go_wp2_with (first | (go_at_call 156; (with_reducible refine (r_within.calls a0 (wrap64 (a1 + 1)) x8_22 x9_24 true _ A29.out).mono ?_); rintro e w' ⟨rfl, ⟨nd, rfl⟩⟩) | (go_at_call 156; (with_reducible refine (r_within.calls a0 (wrap64 (a1 + 2)) 128 191 false _ A32.out).mono ?_); rintro e w' ⟨rfl, ⟨nd, rfl⟩⟩))
                go_meet
                case rel => exact ⟨_, (true), (by first | rfl | (simp; done) | (simp [*]; done)), H', ⟨by have := HJ6.out; have := HJ8.out; have := HJ10.out; have := HJ12.out; have := HJ14.out; have := HJ16.out; have := HJ18.out; have := HJ20.out; have := HJ22.out; have := HJ24.out; first | omega | exact Nat.le_refl _⟩, by repeat (first | exact Drawn0.refl _ | apply Drawn0.step)⟩
               rw [if_neg c31] at H;have c31b0 : decide (1 < x7_16) = false := decide_eq_false c31;clear c31
               by_cases c36 : x7_16 > 2
               ·
                rw [if_pos c36] at H;have c36b0 : decide (2 < x7_16) = true := decide_eq_true c36;clear c36;replace H := Option.bind_eq_some_iff.mp H;obtain ⟨t122, A370, H⟩ := H;replace H : (r_One.j10 kj24 a0 a1 (bt a0 a1) x7_16 (!t122)) = some (r1, r2) := H;have A37 := Aside0.mk A370;clear A370;have H' := Aside0.mk H;clear H
                go_wp2_with (first | (go_at_call 156; (with_reducible refine (r_within.calls a0 (wrap64 (a1 + 1)) x8_22 x9_24 true _ A29.out).mono ?_); rintro e w' ⟨rfl, ⟨nd, rfl⟩⟩) | (go_at_call 156; (with_reducible refine (r_within.calls a0 (wrap64 (a1 + 3)) 128 191 t122 _ A37.out).mono ?_); rintro e w' ⟨rfl, ⟨nd, rfl⟩⟩))
                go_meet
                case rel => exact ⟨_, (!t122), (by first | rfl | (simp; done) | (simp [*]; done)), H', ⟨by have := HJ6.out; have := HJ8.out; have := HJ10.out; have := HJ12.out; have := HJ14.out; have := HJ16.out; have := HJ18.out; have := HJ20.out; have := HJ22.out; have := HJ24.out; first | omega | exact Nat.le_refl _⟩, by repeat (first | exact Drawn0.refl _ | apply Drawn0.step)⟩
               rw [if_neg c36] at H;have c36b0 : decide (2 < x7_16) = false := decide_eq_false c36;clear c36;have H' := Aside0.mk H;clear H
               go_wp2_with (first | (go_at_call 156; (with_reducible refine (r_within.calls a0 (wrap64 (a1 + 1)) x8_22 x9_24 true _ A29.out).mono ?_); rintro e w' ⟨rfl, ⟨nd, rfl⟩⟩))
               go_meet
               case rel => exact ⟨_, (false), (by first | rfl | (simp; done) | (simp [*]; done)), H', ⟨by have := HJ6.out; have := HJ8.out; have := HJ10.out; have := HJ12.out; have := HJ14.out; have := HJ16.out; have := HJ18.out; have := HJ20.out; have := HJ22.out; have := HJ24.out; first | omega | exact Nat.le_refl _⟩, by repeat (first | exact Drawn0.refl _ | apply Drawn0.step)⟩
              replace c30 := Bool.eq_false_iff.mpr c30;subst c30;have H1 : (r_One.j10 kj24 a0 a1 (bt a0 a1) x7_16 true) = some (r1, r2) := by rw [if_neg (show ¬ (false = true) by decide)] at H; exact H
              clear H;have H := H1;clear H1;have H' := Aside0.mk H;clear H
              go_wp2_with (first | (go_at_call 156; (with_reducible refine (r_within.calls a0 (wrap64 (a1 + 1)) x8_22 x9_24 false _ A29.out).mono ?_); rintro e w' ⟨rfl, ⟨nd, rfl⟩⟩))
              go_meet
              case rel => exact ⟨_, (true), (by first | rfl | (simp; done) | (simp [*]; done)), H', ⟨by have := HJ6.out; have := HJ8.out; have := HJ10.out; have := HJ12.out; have := HJ14.out; have := HJ16.out; have := HJ18.out; have := HJ20.out; have := HJ22.out; have := HJ24.out; first | omega | exact Nat.le_refl _⟩, by repeat (first | exact Drawn0.refl _ | apply Drawn0.step)⟩
             clear HC27;obtain ⟨kq, x77_26, rfl, HA, HJ26, ⟨mc26, rfl⟩⟩ := hcut
             cases kq with
             | zero => exact absurd HA.out (by simp [r_One.j10])
             | succ kj26 =>
              have H := HA.out;clear HA;simp only [r_One.j10] at H
              by_cases c38 : x77_26 = true
              ·
               subst c38;have H1 : (some ((-1), 1)) = some (r1, r2) := by rw [if_pos rfl] at H; exact H
               clear H;have H := H1;clear H1;simp only [Option.some.injEq, Prod.mk.injEq] at H;obtain ⟨rfl, rfl⟩ := H;go_wp2;go_ret2;exact ⟨by first | rfl | (simp; done) | (simp [*]; done), by repeat (first | exact Drawn0.refl _ | apply Drawn0.step)⟩
              replace c38 := Bool.eq_false_iff.mpr c38;subst c38;have H1 : (if x7_16 = 2 then (r_One.j11 kj26 a0 a1 (bt a0 a1) x7_16 (Int.tmod (wrap64 ((bt a0 a1))) 16)) else (r_One.j11 kj26 a0 a1 (bt a0 a1) x7_16 (Int.tmod (wrap64 ((bt a0 a1))) 32))) = some (r1, r2) := by rw [if_neg (show ¬ (false = true) by decide)] at H; exact H
              clear H;have H := H1;clear H1;have HC39 := Aside0.mk H;clear H
              go_upto_if 82 with (fail)
              go_cut [10] (fun v10 wc => ∃ (kq : Nat) (x10_38 : Int), v10 = .int .i64 x10_38 ∧ Aside0 (r_One.j11 kq a0 a1 (bt a0 a1) x7_16 x10_38 = some (r1, r2)) ∧ Aside0 (kq ≤ kj26) ∧ Drawn0 w wc)
              case first =>
               have H := HC39.out;clear HC39
               by_cases c40 : x7_16 = 2
               ·
                rw [if_pos c40] at H;have c40b0 : (x7_16 == 2) = true := beq_iff_eq.mpr c40;have c40b1 : (x7_16 != 2) = false := bne_eq_false_iff_eq.mpr c40;clear c40
                (first | rw [c40b0] | (simp only [i64_w, i32_w]; rw [c40b0]) | skip)
                have H' := Aside0.mk H;clear H;go_wp2;go_meet
                case rel => exact ⟨_, (Int.tmod (wrap64 ((bt a0 a1))) 16), (by first | rfl | (simp; done) | (simp [*]; done)), H', ⟨by have := HJ6.out; have := HJ8.out; have := HJ10.out; have := HJ12.out; have := HJ14.out; have := HJ16.out; have := HJ18.out; have := HJ20.out; have := HJ22.out; have := HJ24.out; have := HJ26.out; first | omega | exact Nat.le_refl _⟩, by repeat (first | exact Drawn0.refl _ | apply Drawn0.step)⟩
               rw [if_neg c40] at H;have c40b0 : (x7_16 == 2) = false := beq_eq_false_iff_ne.mpr c40;have c40b1 : (x7_16 != 2) = true := bne_iff_ne.mpr c40
               (first | rw [c40b0] | (simp only [i64_w, i32_w]; rw [c40b0]) | skip)
               have H' := Aside0.mk H;clear H;go_wp2;go_meet
               case rel => exact ⟨_, (Int.tmod (wrap64 ((bt a0 a1))) 32), (by first | rfl | (simp; done) | (simp [*]; done)), H', ⟨by have := HJ6.out; have := HJ8.out; have := HJ10.out; have := HJ12.out; have := HJ14.out; have := HJ16.out; have := HJ18.out; have := HJ20.out; have := HJ22.out; have := HJ24.out; have := HJ26.out; first | omega | exact Nat.le_refl _⟩, by repeat (first | exact Drawn0.refl _ | apply Drawn0.step)⟩
              clear HC39;obtain ⟨kq, x10_38, rfl, HA, HJ38, ⟨mc38, rfl⟩⟩ := hcut
              cases kq with
              | zero => exact absurd HA.out (by simp [r_One.j11])
              | succ kj38 =>
               have H := HA.out;clear HA;simp only [r_One.j11] at H;have HC41 := Aside0.mk H;clear H
               go_upto_if 87 with (fail)
               go_cut [10] (fun v10 wc => ∃ (kq : Nat) (x10_40 : Int), v10 = .int .i64 x10_40 ∧ Aside0 (r_One.j12 kq a0 a1 x7_16 x10_40 = some (r1, r2)) ∧ Aside0 (kq ≤ kj38) ∧ Drawn0 w wc)
               case first =>
                have H := HC41.out;clear HC41
                by_cases c42 : x7_16 = 3
                ·
                 rw [if_pos c42] at H;have c42b0 : (x7_16 == 3) = true := beq_iff_eq.mpr c42;have c42b1 : (x7_16 != 3) = false := bne_eq_false_iff_eq.mpr c42;clear c42
                 (first | rw [c42b0] | (simp only [i64_w, i32_w]; rw [c42b0]) | skip)
                 have H' := Aside0.mk H;clear H;go_wp2;go_meet
                 case rel => exact ⟨_, (Int.tmod (wrap64 ((bt a0 a1))) 8), (by first | rfl | (simp; done) | (simp [*]; done)), H', ⟨by have := HJ6.out; have := HJ8.out; have := HJ10.out; have := HJ12.out; have := HJ14.out; have := HJ16.out; have := HJ18.out; have := HJ20.out; have := HJ22.out; have := HJ24.out; have := HJ26.out; have := HJ38.out; first | omega | exact Nat.le_refl _⟩, by repeat (first | exact Drawn0.refl _ | apply Drawn0.step)⟩
                rw [if_neg c42] at H;have c42b0 : (x7_16 == 3) = false := beq_eq_false_iff_ne.mpr c42;have c42b1 : (x7_16 != 3) = true := bne_iff_ne.mpr c42
                (first | rw [c42b0] | (simp only [i64_w, i32_w]; rw [c42b0]) | skip)
                have H' := Aside0.mk H;clear H;go_wp2;go_meet
                case rel => exact ⟨_, (x10_38), (by first | rfl | (simp; done) | (simp [*]; done)), H', ⟨by have := HJ6.out; have := HJ8.out; have := HJ10.out; have := HJ12.out; have := HJ14.out; have := HJ16.out; have := HJ18.out; have := HJ20.out; have := HJ22.out; have := HJ24.out; have := HJ26.out; have := HJ38.out; first | omega | exact Nat.le_refl _⟩, by repeat (first | exact Drawn0.refl _ | apply Drawn0.step)⟩
               clear HC41;obtain ⟨kq, x10_40, rfl, HA, HJ40, ⟨mc40, rfl⟩⟩ := hcut
               cases kq with
               | zero => exact absurd HA.out (by simp [r_One.j12])
               | succ kj40 =>
                have H := HA.out;clear HA;simp only [r_One.j12] at H;have H' := Aside0.mk H;clear H;go_wp2
                go_loopg [10, 11] kj40 (fun kq v10 v11 w' => ∃ (x10_14 : Int) (x11_14 : Int), v10 = .int .i64 x10_14 ∧ v11 = .int .i64 x11_14 ∧ Aside0 (r_One.l0 kq a0 a1 x7_16 x10_14 x11_14 = some (r1, r2)) ∧ Aside0 (kq ≤ kj40) ∧ Drawn0 w w')
                case atStart => exact ⟨(x10_40), (1), (by first | rfl | (simp; done) | (simp [*]; done)), (by first | rfl | (simp; done) | (simp [*]; done)), H', ⟨Nat.le_refl _⟩, by repeat (first | exact Drawn0.refl _ | apply Drawn0.step)⟩
                clear H';obtain ⟨x10_14, x11_14, rfl, rfl, HA, HK14, ⟨m14, rfl⟩⟩ := hrel
                cases gk with
                | zero => exact absurd HA.out (by simp [r_One.l0])
                | succ k14 =>
                 have H := HA.out;clear HA;simp only [r_One.l0] at H
                 by_cases c43 : x11_14 ≤ x7_16
                 ·
                  rw [if_pos c43] at H;have c43b0 : decide (x11_14 ≤ x7_16) = true := decide_eq_true c43;clear c43;obtain ⟨ji44, hji44⟩ : ∃ j_ : Int, (wrap64 (a1 + x11_14)) = j_ := ⟨_, rfl⟩;replace H : (if 0 ≤ (ji44) then (if (ji44) < (a0.size : Int) then (r_One.l0 k14 a0 a1 x7_16 (wrap64 ((wrap64 (x10_14 * 64)) + (Int.tmod (wrap64 (bt a0 (ji44))) 64))) (wrap64 (x11_14 + 1))) else (none)) else (none)) = some (r1, r2) := by first | (rw [hji44] at H; exact H) | (simp only [hji44] at H ⊢; exact H)
                  have hji44w : (IntKind.i64.wrap (a1 + x11_14)) = ji44 := (i64_w _).trans hji44
                  by_cases c45 : 0 ≤ (ji44)
                  ·
                   rw [if_pos c45] at H;have c45b0 : decide (0 ≤ (ji44)) = true := decide_eq_true c45;clear c45
                   by_cases c46 : (ji44) < (a0.size : Int)
                   ·
                    rw [if_pos c46] at H;have c46b0 : decide ((ji44) < (a0.size : Int)) = true := decide_eq_true c46;clear c46;have H' := Aside0.mk H;clear H;have p47 : 0 ≤ ((ji44) : Int) := of_decide_eq_true (by first | (with_reducible assumption) | assumption);have q47 : (ji44) < (a0.size : Int) := of_decide_eq_true (by first | (with_reducible assumption) | assumption);have hx47 := bt_at a0 (ji44);replace p47 := eq_true p47;replace q47 := eq_true q47;go_wp2
                    go_roundg k14
                    case measure => have := HJ6.out; have := HJ8.out; have := HJ10.out; have := HJ12.out; have := HJ14.out; have := HJ16.out; have := HJ18.out; have := HJ20.out; have := HJ22.out; have := HJ24.out; have := HJ26.out; have := HJ38.out; have := HJ40.out; have := HK14.out; omega
                    case rel => exact ⟨(wrap64 ((wrap64 (x10_14 * 64)) + (Int.tmod (wrap64 (bt a0 (ji44))) 64))), (wrap64 (x11_14 + 1)), (by first | rfl | (simp; done) | (simp only [← hji44] <;> (first | rfl | simp)) | (simp [*]; done)), (by first | rfl | (simp; done) | (simp [*]; done)), H', ⟨by have := HJ6.out; have := HJ8.out; have := HJ10.out; have := HJ12.out; have := HJ14.out; have := HJ16.out; have := HJ18.out; have := HJ20.out; have := HJ22.out; have := HJ24.out; have := HJ26.out; have := HJ38.out; have := HJ40.out; have := HK14.out; omega⟩, by repeat (first | exact Drawn0.refl _ | apply Drawn0.step)⟩
                   rw [if_neg c46] at H;exact absurd H (by simp)
                  rw [if_neg c45] at H;exact absurd H (by simp)
                 rw [if_neg c43] at H;have c43b0 : decide (x11_14 ≤ x7_16) = false := decide_eq_false c43;clear c43;simp only [Option.some.injEq, Prod.mk.injEq] at H;obtain ⟨rfl, rfl⟩ := H;go_wp2;go_ret2;exact ⟨by first | rfl | (simp; done) | (simp [*]; done), by repeat (first | exact Drawn0.refl _ | apply Drawn0.step)⟩
  rw [if_neg c4] at H;exact absurd H (by simp)
 rw [if_neg c3] at H;exact absurd H (by simp)
end Go.Proofs.YtibmfjacfbpfgaaGreatDoor.PNm
namespace Go.Proofs.YtibmfjacfbpfgaaGreatDoor.PNm
open Go.RowKit YtibmfjacfbpfgaaGreatDoorW PrintWords PrintLast PrintMore
attribute [local go_sem] max2_int min2_int max_two min_two max_three min_three max_four min_four   -- for this text's walks alone
def r_Strays.l0 : Nat → ByteArray → Int → Option (Bool)
 | 0, _, _ => none
 | k + 1, x0, x3 => if x3 < (x0.size : Int) then ((r_One.f k x0 x3).bind fun bt123 => (if bt123.1 < 0 then (some true) else (r_Strays.l0 k x0 (wrap64 (x3 + bt123.2))))) else (some false)
def r_Strays.f (k : Nat) (a0 : ByteArray) : Option (Bool) := r_Strays.l0 k a0 0
theorem r_Strays.mono_l : ∀ k, (∀ y0 y1, LeO (r_Strays.l0 k y0 y1) (r_Strays.l0 (k + 1) y0 y1))
 | 0 => fun _ _ r h => by simp [r_Strays.l0] at h
 | k + 1 => by
  have ih0 := r_Strays.mono_l k
  ·
   intro y0 y1;unfold r_Strays.l0
   repeat' first
   | (with_reducible exact ih0 _ _)
   | (with_reducible exact r_One.mono _ _ _)
   | (with_reducible exact LeO.refl _)
   | (with_reducible exact LeO.none _)
   | (with_reducible refine LeO.ite ?_ ?_)
   | (with_reducible refine LeO.bind ?_ (fun _ => ?_))
   | exact ih0 _ _
   | exact r_One.mono _ _ _
   | exact LeO.none _
   | refine LeO.ite ?_ ?_
   | refine LeO.bind ?_ (fun _ => ?_)
theorem r_Strays.mono : ∀ a0 k, LeO (r_Strays.f k a0) (r_Strays.f (k + 1) a0) := by
 intro a0 k;have ih0 := r_Strays.mono_l k;unfold r_Strays.f
 repeat' first
   | (with_reducible exact ih0 _ _)
   | (with_reducible exact r_One.mono _ _ _)
   | (with_reducible exact LeO.refl _)
   | (with_reducible exact LeO.none _)
   | (with_reducible refine LeO.ite ?_ ?_)
   | (with_reducible refine LeO.bind ?_ (fun _ => ?_))
   | exact ih0 _ _
   | exact r_One.mono _ _ _
   | exact LeO.none _
   | refine LeO.ite ?_ ?_
   | refine LeO.bind ?_ (fun _ => ?_)
theorem r_Strays.calls (k : Nat) (a0 : ByteArray) (r : Bool) (w : World) (h : r_Strays.f k a0 = some r) :
  Calls Tryz.prog 102 #[.string a0] w fun e w' => e = .returned (.bool r) ∧ Drawn0 w w' := by
 have H : (r_Strays.l0 k a0 0) = some r := h;clear h;have H' := Aside0.mk H;clear H;go_enter Tryz.func102, Tryz.ntmps102;go_wp2
 go_loopg [3] k (fun kq v3 w' => ∃ (x3_1 : Int), v3 = .int .i64 x3_1 ∧ Aside0 (r_Strays.l0 kq a0 x3_1 = some r) ∧ Aside0 (kq ≤ k) ∧ Drawn0 w w')
 case atStart => exact ⟨(0), (by first | rfl | (simp; done) | (simp [*]; done)), H', ⟨Nat.le_refl _⟩, by repeat (first | exact Drawn0.refl _ | apply Drawn0.step)⟩
 clear H';obtain ⟨x3_1, rfl, HA, HK1, ⟨m1, rfl⟩⟩ := hrel
 cases gk with
 | zero => exact absurd HA.out (by simp [r_Strays.l0])
 | succ k1 =>
  have H := HA.out;clear HA;simp only [r_Strays.l0] at H
  by_cases c2 : x3_1 < (a0.size : Int)
  ·
   rw [if_pos c2] at H;have c2b0 : decide (x3_1 < (a0.size : Int)) = true := decide_eq_true c2;clear c2;replace H := Option.bind_eq_some_iff.mp H;obtain ⟨⟨t123, t124⟩, A30, H⟩ := H;replace H : (if t123 < 0 then (some true) else (r_Strays.l0 k1 a0 (wrap64 (x3_1 + t124)))) = some r := H;have A3 := Aside0.mk A30;clear A30
   by_cases c4 : t123 < 0
   ·
    rw [if_pos c4] at H;have c4b0 : decide (t123 < 0) = true := decide_eq_true c4;clear c4;obtain rfl := Option.some.inj H
    go_wp2_with (first | ((with_reducible refine gate_callee (f := 131) rfl ?_); refine goesL_ (some 13) rfl rfl Tryz.func131 (by kernel_rfl) rfl #[.string a0, .int .i64 x3_1] rfl (by (try simp only [List.map_toArray, List.map_cons, List.map_nil]); first | done | rfl | (simp only [List.length_drop, List.length_take]; rfl)) ?_; (with_reducible refine (r_One.calls k1 a0 x3_1 t123 t124 _ A3.out).mono ?_); rintro e w' ⟨rfl, ⟨nd, rfl⟩⟩; refine ⟨_, rfl, ?_⟩))
    go_ret;exact ⟨by first | rfl | (simp; done) | (simp [*]; done), by repeat (first | exact Drawn0.refl _ | apply Drawn0.step)⟩
   rw [if_neg c4] at H;have c4b0 : decide (t123 < 0) = false := decide_eq_false c4;clear c4;have H' := Aside0.mk H;clear H
   go_wp2_with (first | ((with_reducible refine gate_callee (f := 131) rfl ?_); refine goesL_ (some 13) rfl rfl Tryz.func131 (by kernel_rfl) rfl #[.string a0, .int .i64 x3_1] rfl (by (try simp only [List.map_toArray, List.map_cons, List.map_nil]); first | done | rfl | (simp only [List.length_drop, List.length_take]; rfl)) ?_; (with_reducible refine (r_One.calls k1 a0 x3_1 t123 t124 _ A3.out).mono ?_); rintro e w' ⟨rfl, ⟨nd, rfl⟩⟩; refine ⟨_, rfl, ?_⟩))
   go_roundg k1
   case measure => have := HK1.out; omega
   case rel => exact ⟨(wrap64 (x3_1 + t124)), (by first | rfl | (simp; done) | (simp [*]; done)), H', ⟨by have := HK1.out; omega⟩, by repeat (first | exact Drawn0.refl _ | apply Drawn0.step)⟩
  rw [if_neg c2] at H;have c2b0 : decide (x3_1 < (a0.size : Int)) = false := decide_eq_false c2;clear c2;obtain rfl := Option.some.inj H;go_wp2;go_ret;exact ⟨by first | rfl | (simp; done) | (simp [*]; done), by repeat (first | exact Drawn0.refl _ | apply Drawn0.step)⟩
end Go.Proofs.YtibmfjacfbpfgaaGreatDoor.PNm
namespace Go.Proofs.YtibmfjacfbpfgaaGreatDoor.PNm
open Go.RowKit YtibmfjacfbpfgaaGreatDoorW PrintWords PrintLast PrintMore
attribute [local go_sem] max2_int min2_int max_two min_two max_three min_three max_four min_four   -- for this text's walks alone
mutual
def r_Check.j0 : Nat → ByteArray → Bool → Option (ByteArray × Bool × Int)
 | 0, _, _ => none
 | k + 1, x0, x22 => if x22 = true then (some ((⟨#[]⟩ : ByteArray), false, 20)) else (if 0 ≤ (wrap64 ((x0.size : Int) - 1)) then (if (wrap64 ((x0.size : Int) - 1)) < (x0.size : Int) then (if (bt x0 (wrap64 ((x0.size : Int) - 1))) = 47 then (if (wrap64 ((x0.size : Int) - 1)) ≤ (x0.size : Int) then (r_Check.j1 k x0 (x0.extract 0 ((wrap64 ((x0.size : Int) - 1)) : Int).toNat) true) else (none)) else (r_Check.j1 k x0 x0 false)) else (none)) else (none))
def r_Check.j1 : Nat → ByteArray → ByteArray → Bool → Option (ByteArray × Bool × Int)
 | 0, _, _, _ => none
 | k + 1, x0, x5, x6 => r_Check.l0 k x0 x5 x6 0
def r_Check.l0 : Nat → ByteArray → ByteArray → Bool → Int → Option (ByteArray × Bool × Int)
 | 0, _, _, _, _ => none
 | k + 1, x0, x5, x6, x7 => if x7 < (x0.size : Int) then (if 0 ≤ x7 then (if (bt x0 x7) = 0 then (some ((⟨#[]⟩ : ByteArray), false, 21)) else (if (bt x0 x7) = 92 then (some ((⟨#[]⟩ : ByteArray), false, 21)) else (r_Check.l0 k x0 x5 x6 (wrap64 (x7 + 1))))) else (none)) else ((r_Parts.f k x5).bind fun t126 => (if (t126.length : Int) = 0 then (some ((⟨#[]⟩ : ByteArray), false, 21)) else (r_Check.l1 k x5 x6 t126 t126 (t126.length : Int) 0)))
def r_Check.l1 : Nat → ByteArray → Bool → List ByteArray → List ByteArray → Int → Int → Option (ByteArray × Bool × Int)
 | 0, _, _, _, _, _, _ => none
 | k + 1, x5, x6, x8, x56, x57, x58 => if x58 < x57 then (if 0 ≤ x58 then (if x58 < (x56.length : Int) then (if (rdOf ByteArray.empty x56 x58).toList = ([] : List UInt8) then (some ((⟨#[]⟩ : ByteArray), false, 21)) else (if (rdOf ByteArray.empty x56 x58).toList = ([46] : List UInt8) then (some ((⟨#[]⟩ : ByteArray), false, 21)) else (if (rdOf ByteArray.empty x56 x58).toList = ([46, 46] : List UInt8) then (some ((⟨#[]⟩ : ByteArray), false, 21)) else (r_Check.l1 k x5 x6 x8 x56 x57 (wrap64 (x58 + 1)))))) else (none)) else (none)) else (r_Check.l2 k x5 x6 x8 x8 (x8.length : Int) 0)
def r_Check.l2 : Nat → ByteArray → Bool → List ByteArray → List ByteArray → Int → Int → Option (ByteArray × Bool × Int)
 | 0, _, _, _, _, _, _ => none
 | k + 1, x5, x6, x8, x73, x74, x75 => if x75 < x74 then (if 0 ≤ x75 then (if x75 < (x73.length : Int) then (if ((rdOf ByteArray.empty x73 x75).size : Int) > 255 then (some ((⟨#[]⟩ : ByteArray), false, 5)) else (if (x8.length : Int) > 32 then (some ((⟨#[]⟩ : ByteArray), false, 5)) else (r_Check.l2 k x5 x6 x8 x73 x74 (wrap64 (x75 + 1))))) else (none)) else (none)) else (some (x5, x6, 0))
end
def r_Check.f (k : Nat) (a0 : ByteArray) : Option (ByteArray × Bool × Int) := if (a0.size : Int) > 65535 then (some ((⟨#[]⟩ : ByteArray), false, 5)) else (if (a0.size : Int) = 0 then (r_Check.j0 k a0 true) else ((r_Strays.f k a0).bind fun t125 => (r_Check.j0 k a0 t125)))
theorem r_Check.mono_l : ∀ k, (∀ y0 y1, LeO (r_Check.j0 k y0 y1) (r_Check.j0 (k + 1) y0 y1)) ∧ (∀ y0 y1 y2, LeO (r_Check.j1 k y0 y1 y2) (r_Check.j1 (k + 1) y0 y1 y2)) ∧ (∀ y0 y1 y2 y3, LeO (r_Check.l0 k y0 y1 y2 y3) (r_Check.l0 (k + 1) y0 y1 y2 y3)) ∧ (∀ y0 y1 y2 y3 y4 y5, LeO (r_Check.l1 k y0 y1 y2 y3 y4 y5) (r_Check.l1 (k + 1) y0 y1 y2 y3 y4 y5)) ∧ (∀ y0 y1 y2 y3 y4 y5, LeO (r_Check.l2 k y0 y1 y2 y3 y4 y5) (r_Check.l2 (k + 1) y0 y1 y2 y3 y4 y5))
 | 0 => ⟨fun _ _ r h => by simp [r_Check.j0] at h, fun _ _ _ r h => by simp [r_Check.j1] at h, fun _ _ _ _ r h => by simp [r_Check.l0] at h, fun _ _ _ _ _ _ r h => by simp [r_Check.l1] at h, fun _ _ _ _ _ _ r h => by simp [r_Check.l2] at h⟩
 | k + 1 => by
  obtain ⟨ih0, ih1, ih2, ih3, ih4⟩ := r_Check.mono_l k;refine ⟨?_, ?_, ?_, ?_, ?_⟩
  all_goals
   intros
   first
   | unfold r_Check.j0
   | unfold r_Check.j1
   | unfold r_Check.l0
   | unfold r_Check.l1
   | unfold r_Check.l2
   repeat' first
   | (with_reducible exact ih0 _ _)
   | (with_reducible exact ih1 _ _ _)
   | (with_reducible exact ih2 _ _ _ _)
   | (with_reducible exact ih3 _ _ _ _ _ _)
   | (with_reducible exact ih4 _ _ _ _ _ _)
   | (with_reducible exact r_Parts.mono _ _)
   | (with_reducible exact r_Strays.mono _ _)
   | (with_reducible exact LeO.refl _)
   | (with_reducible exact LeO.none _)
   | (with_reducible refine LeO.ite ?_ ?_)
   | (with_reducible refine LeO.bind ?_ (fun _ => ?_))
   | exact ih0 _ _
   | exact ih1 _ _ _
   | exact ih2 _ _ _ _
   | exact ih3 _ _ _ _ _ _
   | exact ih4 _ _ _ _ _ _
   | exact r_Parts.mono _ _
   | exact r_Strays.mono _ _
   | exact LeO.none _
   | refine LeO.ite ?_ ?_
   | refine LeO.bind ?_ (fun _ => ?_)
theorem r_Check.mono : ∀ a0 k, LeO (r_Check.f k a0) (r_Check.f (k + 1) a0) := by
 intro a0 k;obtain ⟨ih0, ih1, ih2, ih3, ih4⟩ := r_Check.mono_l k;unfold r_Check.f
 repeat' first
   | (with_reducible exact ih0 _ _)
   | (with_reducible exact ih1 _ _ _)
   | (with_reducible exact ih2 _ _ _ _)
   | (with_reducible exact ih3 _ _ _ _ _ _)
   | (with_reducible exact ih4 _ _ _ _ _ _)
   | (with_reducible exact r_Parts.mono _ _)
   | (with_reducible exact r_Strays.mono _ _)
   | (with_reducible exact LeO.refl _)
   | (with_reducible exact LeO.none _)
   | (with_reducible refine LeO.ite ?_ ?_)
   | (with_reducible refine LeO.bind ?_ (fun _ => ?_))
   | exact ih0 _ _
   | exact ih1 _ _ _
   | exact ih2 _ _ _ _
   | exact ih3 _ _ _ _ _ _
   | exact ih4 _ _ _ _ _ _
   | exact r_Parts.mono _ _
   | exact r_Strays.mono _ _
   | exact LeO.none _
   | refine LeO.ite ?_ ?_
   | refine LeO.bind ?_ (fun _ => ?_)
theorem r_Check.calls (k : Nat) (a0 : ByteArray) (r1 : ByteArray) (r2 : Bool) (r3 : Int) (w : World) (h : r_Check.f k a0 = some (r1, r2, r3)) :
  Calls Tryz.prog 66 #[.string a0] w fun e w' => e = .returned (.tuple #[.string r1, .bool r2, .int .i64 r3]) ∧ Below w.heap.size w w' := by
 have HB := Aside0.mk (Below.refl w.heap.size w);have H : (if (a0.size : Int) > 65535 then (some ((⟨#[]⟩ : ByteArray), false, 5)) else (if (a0.size : Int) = 0 then (r_Check.j0 k a0 true) else ((r_Strays.f k a0).bind fun t125 => (r_Check.j0 k a0 t125)))) = some (r1, r2, r3) := h;clear h
 by_cases c2 : (a0.size : Int) > 65535
 ·
  rw [if_pos c2] at H;have c2b0 : decide (65535 < (a0.size : Int)) = true := decide_eq_true c2;have c2b1 : decide (65535 < a0.size) = true := decide_eq_true (by omega);clear c2;simp only [Option.some.injEq, Prod.mk.injEq] at H;obtain ⟨rfl, rfl, rfl⟩ := H;go_enter Tryz.func66, Tryz.ntmps66;go_wp2
  go_ret3
  exact ⟨by first | rfl | (simp [errW_none, errW_some] <;> rfl) | (simp [*, errW_none, errW_some] <;> rfl), by repeat (first | (with_reducible first | exact HB.out | apply below_alloc | apply pw_below_drewN | apply below_drew1) | exact HB.out)⟩
 rw [if_neg c2] at H;have c2b0 : decide (65535 < (a0.size : Int)) = false := decide_eq_false c2;have c2b1 : decide (65535 < a0.size) = false := decide_eq_false (by omega);clear c2;have HC3 := Aside0.mk H;clear H;go_enter Tryz.func66, Tryz.ntmps66;go_upto_region 3 with (fail)
 go_cut [22] (fun v22 wc => ∃ (kq : Nat) (x22_2 : Bool), v22 = .bool x22_2 ∧ Aside0 (r_Check.j0 kq a0 x22_2 = some (r1, r2, r3)) ∧ Aside0 (kq ≤ k) ∧ Aside0 (Below w.heap.size w wc))
 case first =>
  have H := HC3.out;clear HC3
  by_cases c4 : (a0.size : Int) = 0
  ·
   rw [if_pos c4] at H;have c4b0 : ((a0.size : Int) == 0) = true := beq_iff_eq.mpr c4;have c4b1 : ((a0.size : Int) != 0) = false := bne_eq_false_iff_eq.mpr c4;clear c4
   (first | rw [c4b0] | (simp only [i64_w, i32_w]; rw [c4b0]) | skip)
   have H' := Aside0.mk H;clear H;go_wp2;go_meet
   case rel => exact ⟨_, (true), (by first | rfl | (simp; done) | (simp [*]; done)), H', ⟨by first | omega | exact Nat.le_refl _⟩, ⟨by repeat (first | (with_reducible first | exact HB.out | apply below_alloc | apply pw_below_drewN | apply below_drew1) | exact HB.out)⟩⟩
  rw [if_neg c4] at H;have c4b0 : ((a0.size : Int) == 0) = false := beq_eq_false_iff_ne.mpr c4;have c4b1 : ((a0.size : Int) != 0) = true := bne_iff_ne.mpr c4
  (first | rw [c4b0] | (simp only [i64_w, i32_w]; rw [c4b0]) | skip)
  replace H := Option.bind_eq_some_iff.mp H;obtain ⟨t125, A50, H⟩ := H;replace H : (r_Check.j0 k a0 t125) = some (r1, r2, r3) := H;have A5 := Aside0.mk A50;clear A50;have H' := Aside0.mk H;clear H
  go_wp2_with (first | (go_at_call 102; (with_reducible refine (r_Strays.calls k a0 t125 _ A5.out).mono ?_); rintro e w' ⟨rfl, ⟨nd, rfl⟩⟩))
  go_meet
  case rel => exact ⟨_, (t125), (by first | rfl | (simp; done) | (simp [*]; done)), H', ⟨by first | omega | exact Nat.le_refl _⟩, ⟨by repeat (first | (with_reducible first | exact HB.out | apply below_alloc | apply pw_below_drewN | apply below_drew1) | exact HB.out)⟩⟩
 clear HC3;obtain ⟨kq, x22_2, rfl, HA, HJ2, HB⟩ := hcut
 cases kq with
 | zero => exact absurd HA.out (by simp [r_Check.j0])
 | succ kj2 =>
  have H := HA.out;clear HA;simp only [r_Check.j0] at H
  by_cases c6 : x22_2 = true
  ·
   subst c6;have H1 : (some ((⟨#[]⟩ : ByteArray), false, 20)) = some (r1, r2, r3) := by rw [if_pos rfl] at H; exact H
   clear H;have H := H1;clear H1;simp only [Option.some.injEq, Prod.mk.injEq] at H;obtain ⟨rfl, rfl, rfl⟩ := H;go_wp2
   go_ret3
   exact ⟨by first | rfl | (simp [errW_none, errW_some] <;> rfl) | (simp [*, errW_none, errW_some] <;> rfl), by repeat (first | (with_reducible first | exact HB.out | apply below_alloc | apply pw_below_drewN | apply below_drew1) | exact HB.out)⟩
  replace c6 := Bool.eq_false_iff.mpr c6;subst c6;have H1 : (if 0 ≤ (wrap64 ((a0.size : Int) - 1)) then (if (wrap64 ((a0.size : Int) - 1)) < (a0.size : Int) then (if (bt a0 (wrap64 ((a0.size : Int) - 1))) = 47 then (if (wrap64 ((a0.size : Int) - 1)) ≤ (a0.size : Int) then (r_Check.j1 kj2 a0 (a0.extract 0 ((wrap64 ((a0.size : Int) - 1)) : Int).toNat) true) else (none)) else (r_Check.j1 kj2 a0 a0 false)) else (none)) else (none)) = some (r1, r2, r3) := by rw [if_neg (show ¬ (false = true) by decide)] at H; exact H
  clear H;have H := H1;clear H1;obtain ⟨ji7, hji7⟩ : ∃ j_ : Int, (wrap64 ((a0.size : Int) - 1)) = j_ := ⟨_, rfl⟩;replace H : (if 0 ≤ (ji7) then (if (ji7) < (a0.size : Int) then (if (bt a0 (ji7)) = 47 then (if (ji7) ≤ (a0.size : Int) then (r_Check.j1 kj2 a0 (a0.extract 0 ((ji7) : Int).toNat) true) else (none)) else (r_Check.j1 kj2 a0 a0 false)) else (none)) else (none)) = some (r1, r2, r3) := by first | (rw [hji7] at H; exact H) | (simp only [hji7] at H ⊢; exact H)
  have hji7w : (IntKind.i64.wrap ((a0.size : Int) - 1)) = ji7 := (i64_w _).trans hji7
  by_cases c8 : 0 ≤ (ji7)
  ·
   rw [if_pos c8] at H;have c8b0 : decide (0 ≤ (ji7)) = true := decide_eq_true c8;clear c8
   by_cases c9 : (ji7) < (a0.size : Int)
   ·
    rw [if_pos c9] at H;have c9b0 : decide ((ji7) < (a0.size : Int)) = true := decide_eq_true c9;clear c9;have HC11 := Aside0.mk H;clear H;have p10 : 0 ≤ ((ji7) : Int) := of_decide_eq_true (by first | (with_reducible assumption) | assumption);have q10 : (ji7) < (a0.size : Int) := of_decide_eq_true (by first | (with_reducible assumption) | assumption);have hx10 := bt_at a0 (ji7);replace p10 := eq_true p10;replace q10 := eq_true q10
    go_upto_if 29 with (fail)
    go_cut [5, 6] (fun v5 v6 wc => ∃ (kq : Nat) (x5_10 : ByteArray) (x6_10 : Bool), v5 = .string x5_10 ∧ v6 = .bool x6_10 ∧ Aside0 (r_Check.j1 kq a0 x5_10 x6_10 = some (r1, r2, r3)) ∧ Aside0 (kq ≤ kj2) ∧ Aside0 (Below w.heap.size w wc))
    case first =>
     have H := HC11.out;clear HC11
     by_cases c12 : (bt a0 (ji7)) = 47
     ·
      rw [if_pos c12] at H;have c12b0 : ((bt a0 (ji7)) == 47) = true := beq_iff_eq.mpr c12;have c12b1 : ((bt a0 (ji7)) != 47) = false := bne_eq_false_iff_eq.mpr c12;clear c12
      (first | rw [c12b0] | (simp only [i64_w, i32_w]; rw [c12b0]) | skip)
      have c13b0 := eq_true (of_decide_eq_true (by first | (with_reducible assumption) | assumption) : 0 ≤ (ji7))
      by_cases c14 : (ji7) ≤ (a0.size : Int)
      ·
       rw [if_pos c14] at H;have c14b0 := eq_true c14;have c14b1 : decide ((ji7) ≤ (a0.size : Int)) = true := decide_eq_true c14;clear c14;have H' := Aside0.mk H;clear H;go_wp2;go_meet
       case rel => exact ⟨_, (a0.extract 0 ((ji7) : Int).toNat), (true), (by first | rfl | (simp; done) | (simp only [← hji7] <;> (first | rfl | simp)) | (simp [*]; done)), (by first | rfl | (simp; done) | (simp [*]; done)), H', ⟨by have := HJ2.out; first | omega | exact Nat.le_refl _⟩, ⟨by repeat (first | (with_reducible first | exact HB.out | apply below_alloc | apply pw_below_drewN | apply below_drew1) | exact HB.out)⟩⟩
      rw [if_neg c14] at H;exact absurd H (by simp)
     rw [if_neg c12] at H;have c12b0 : ((bt a0 (ji7)) == 47) = false := beq_eq_false_iff_ne.mpr c12;have c12b1 : ((bt a0 (ji7)) != 47) = true := bne_iff_ne.mpr c12
     (first | rw [c12b0] | (simp only [i64_w, i32_w]; rw [c12b0]) | skip)
     have H' := Aside0.mk H;clear H;go_wp2;go_meet
     case rel => exact ⟨_, (a0), (false), (by first | rfl | (simp; done) | (simp [*]; done)), (by first | rfl | (simp; done) | (simp [*]; done)), H', ⟨by have := HJ2.out; first | omega | exact Nat.le_refl _⟩, ⟨by repeat (first | (with_reducible first | exact HB.out | apply below_alloc | apply pw_below_drewN | apply below_drew1) | exact HB.out)⟩⟩
    clear HC11;obtain ⟨kq, x5_10, x6_10, rfl, rfl, HA, HJ10, HB⟩ := hcut
    cases kq with
    | zero => exact absurd HA.out (by simp [r_Check.j1])
    | succ kj10 =>
     have H := HA.out;clear HA;simp only [r_Check.j1] at H;have H' := Aside0.mk H;clear H;go_wp2
     go_loopg [7] kj10 (fun kq v7 w' => ∃ (x7_3 : Int), v7 = .int .i64 x7_3 ∧ Aside0 (r_Check.l0 kq a0 x5_10 x6_10 x7_3 = some (r1, r2, r3)) ∧ Aside0 (kq ≤ kj10) ∧ Aside0 (Below w.heap.size w w'))
     case atStart => exact ⟨(0), (by first | rfl | (simp; done) | (simp [*]; done)), H', ⟨Nat.le_refl _⟩, ⟨by repeat (first | (with_reducible first | exact HB.out | apply below_alloc | apply pw_below_drewN | apply below_drew1) | exact HB.out)⟩⟩
     clear H';obtain ⟨x7_3, rfl, HA, HK3, HB⟩ := hrel
     cases gk with
     | zero => exact absurd HA.out (by simp [r_Check.l0])
     | succ k3 =>
      have H := HA.out;clear HA;simp only [r_Check.l0] at H
      by_cases c15 : x7_3 < (a0.size : Int)
      ·
       rw [if_pos c15] at H;have c15b0 : decide (x7_3 < (a0.size : Int)) = true := decide_eq_true c15;clear c15
       by_cases c16 : 0 ≤ x7_3
       ·
        rw [if_pos c16] at H;have c16b0 : decide (0 ≤ x7_3) = true := decide_eq_true c16;clear c16
        by_cases c18 : (bt a0 x7_3) = 0
        ·
         rw [if_pos c18] at H;have c18b0 : ((bt a0 x7_3) == 0) = true := beq_iff_eq.mpr c18;have c18b1 : ((bt a0 x7_3) != 0) = false := bne_eq_false_iff_eq.mpr c18;clear c18;simp only [Option.some.injEq, Prod.mk.injEq] at H;obtain ⟨rfl, rfl, rfl⟩ := H;have p17 : 0 ≤ (x7_3 : Int) := of_decide_eq_true (by first | (with_reducible assumption) | assumption);have q17 : x7_3 < (a0.size : Int) := of_decide_eq_true (by first | (with_reducible assumption) | assumption);have hx17 := bt_at a0 x7_3;replace p17 := eq_true p17;replace q17 := eq_true q17;go_wp2
         go_ret3
         exact ⟨by first | rfl | (simp [errW_none, errW_some] <;> rfl) | (simp only [← hji7]; first | rfl | (simp [errW_none, errW_some] <;> rfl)) | (simp [*, errW_none, errW_some] <;> rfl), by repeat (first | (with_reducible first | exact HB.out | apply below_alloc | apply pw_below_drewN | apply below_drew1) | exact HB.out)⟩
        rw [if_neg c18] at H;have c18b0 : ((bt a0 x7_3) == 0) = false := beq_eq_false_iff_ne.mpr c18;have c18b1 : ((bt a0 x7_3) != 0) = true := bne_iff_ne.mpr c18
        by_cases c20 : (bt a0 x7_3) = 92
        ·
         rw [if_pos c20] at H;have c20b0 : ((bt a0 x7_3) == 92) = true := beq_iff_eq.mpr c20;have c20b1 : ((bt a0 x7_3) != 92) = false := bne_eq_false_iff_eq.mpr c20;clear c20;simp only [Option.some.injEq, Prod.mk.injEq] at H;obtain ⟨rfl, rfl, rfl⟩ := H;have p17 : 0 ≤ (x7_3 : Int) := of_decide_eq_true (by first | (with_reducible assumption) | assumption);have q17 : x7_3 < (a0.size : Int) := of_decide_eq_true (by first | (with_reducible assumption) | assumption);have hx17 := bt_at a0 x7_3;replace p17 := eq_true p17;replace q17 := eq_true q17;have p19 : 0 ≤ (x7_3 : Int) := of_decide_eq_true (by first | (with_reducible assumption) | assumption);have q19 : x7_3 < (a0.size : Int) := of_decide_eq_true (by first | (with_reducible assumption) | assumption);have hx19 := bt_at a0 x7_3;replace p19 := eq_true p19;replace q19 := eq_true q19;go_wp2
         go_ret3
         exact ⟨by first | rfl | (simp [errW_none, errW_some] <;> rfl) | (simp only [← hji7]; first | rfl | (simp [errW_none, errW_some] <;> rfl)) | (simp [*, errW_none, errW_some] <;> rfl), by repeat (first | (with_reducible first | exact HB.out | apply below_alloc | apply pw_below_drewN | apply below_drew1) | exact HB.out)⟩
        rw [if_neg c20] at H;have c20b0 : ((bt a0 x7_3) == 92) = false := beq_eq_false_iff_ne.mpr c20;have c20b1 : ((bt a0 x7_3) != 92) = true := bne_iff_ne.mpr c20;have H' := Aside0.mk H;clear H;have p17 : 0 ≤ (x7_3 : Int) := of_decide_eq_true (by first | (with_reducible assumption) | assumption);have q17 : x7_3 < (a0.size : Int) := of_decide_eq_true (by first | (with_reducible assumption) | assumption);have hx17 := bt_at a0 x7_3;replace p17 := eq_true p17;replace q17 := eq_true q17;have p19 : 0 ≤ (x7_3 : Int) := of_decide_eq_true (by first | (with_reducible assumption) | assumption);have q19 : x7_3 < (a0.size : Int) := of_decide_eq_true (by first | (with_reducible assumption) | assumption);have hx19 := bt_at a0 x7_3;replace p19 := eq_true p19;replace q19 := eq_true q19;go_wp2
        go_roundg k3
        case measure => have := HJ2.out; have := HJ10.out; have := HK3.out; omega
        case rel => exact ⟨(wrap64 (x7_3 + 1)), (by first | rfl | (simp; done) | (simp [*]; done)), H', ⟨by have := HJ2.out; have := HJ10.out; have := HK3.out; omega⟩, ⟨by repeat (first | (with_reducible first | exact HB.out | apply below_alloc | apply pw_below_drewN | apply below_drew1) | exact HB.out)⟩⟩
       rw [if_neg c16] at H;exact absurd H (by simp)
      rw [if_neg c15] at H;have c15b0 : decide (x7_3 < (a0.size : Int)) = false := decide_eq_false c15;clear c15;replace H := Option.bind_eq_some_iff.mp H;obtain ⟨t126, A210, H⟩ := H;replace H : (if (t126.length : Int) = 0 then (some ((⟨#[]⟩ : ByteArray), false, 21)) else (r_Check.l1 k3 x5_10 x6_10 t126 t126 (t126.length : Int) 0)) = some (r1, r2, r3) := H;have A21 := Aside0.mk A210;clear A210
      by_cases c22 : (t126.length : Int) = 0
      ·
       rw [if_pos c22] at H;have c22b0 : ((t126.length : Int) == 0) = true := beq_iff_eq.mpr c22;have c22b1 : ((t126.length : Int) != 0) = false := bne_eq_false_iff_eq.mpr c22;clear c22;simp only [Option.some.injEq, Prod.mk.injEq] at H;obtain ⟨rfl, rfl, rfl⟩ := H
       go_wp2_with (first | ((with_reducible refine gate_callee (f := 73) rfl ?_); refine goesL_ (some 52) rfl rfl Tryz.func73 (by kernel_rfl) rfl #[.string x5_10] rfl (by (try simp only [List.map_toArray, List.map_cons, List.map_nil]); first | done | rfl | (simp only [List.length_drop, List.length_take]; rfl)) ?_; (with_reducible refine (r_Parts.calls k3 x5_10 t126 _ A21.out).mono ?_); rintro e w23 ⟨v127, rfl, ho0, hb⟩; refine ⟨_, rfl, ?_⟩; have n0_ := Aside0.mk (Kd.R_lower ho0 (below_size (by repeat (first | (with_reducible first | exact HB.out | apply below_alloc | apply pw_below_drewN | apply below_drew1) | exact HB.out)))); have n1_ := Aside0.mk (below_step (by repeat (first | (with_reducible first | exact HB.out | apply below_alloc | apply pw_below_drewN | apply below_drew1) | exact HB.out)) hb); clear HB; have HO128 := n0_; have HB := n1_; clear n0_ n1_; (try clear hb); (try clear hb2); (try clear hk); (try clear hi); (try clear ho0); obtain ⟨Ao24, co24, eo24⟩ := Kd.R_slice HO128.out; subst eo24))
       go_ret3
       exact ⟨by first | rfl | (simp [errW_none, errW_some] <;> rfl) | (simp only [← hji7]; first | rfl | (simp [errW_none, errW_some] <;> rfl)) | (simp [*, errW_none, errW_some] <;> rfl), by repeat (first | (with_reducible first | exact HB.out | apply below_alloc | apply pw_below_drewN | apply below_drew1) | exact HB.out)⟩
      rw [if_neg c22] at H;have c22b0 : ((t126.length : Int) == 0) = false := beq_eq_false_iff_ne.mpr c22;have c22b1 : ((t126.length : Int) != 0) = true := bne_iff_ne.mpr c22;have c22b2 : ¬ (t126 = []) := fun h_ => c22 (by rw [h_]; rfl)
      have H' := Aside0.mk H;clear H
      go_wp2_with (first | ((with_reducible refine gate_callee (f := 73) rfl ?_); refine goesL_ (some 52) rfl rfl Tryz.func73 (by kernel_rfl) rfl #[.string x5_10] rfl (by (try simp only [List.map_toArray, List.map_cons, List.map_nil]); first | done | rfl | (simp only [List.length_drop, List.length_take]; rfl)) ?_; (with_reducible refine (r_Parts.calls k3 x5_10 t126 _ A21.out).mono ?_); rintro e w25 ⟨v127, rfl, ho0, hb⟩; refine ⟨_, rfl, ?_⟩; have n0_ := Aside0.mk (Kd.R_lower ho0 (below_size (by repeat (first | (with_reducible first | exact HB.out | apply below_alloc | apply pw_below_drewN | apply below_drew1) | exact HB.out)))); have n1_ := Aside0.mk (below_step (by repeat (first | (with_reducible first | exact HB.out | apply below_alloc | apply pw_below_drewN | apply below_drew1) | exact HB.out)) hb); clear HB; have HO128 := n0_; have HB := n1_; clear n0_ n1_; (try clear hb); (try clear hb2); (try clear hk); (try clear hi); (try clear ho0); obtain ⟨Ao26, co26, eo26⟩ := Kd.R_slice HO128.out; subst eo26))
      go_loopg [58] k3 (fun kq v58 w' => ∃ (x58_4 : Int), v58 = .int .i64 x58_4 ∧ Aside0 (r_Check.l1 kq x5_10 x6_10 t126 t126 (t126.length : Int) x58_4 = some (r1, r2, r3)) ∧ Aside0 (kq ≤ k3) ∧ Aside0 (Kd.R Kd.string 9 w' w.heap.size (fun _ => True) (.slice Ao26 t126.length co26) t126) ∧ Aside0 (Kd.R Kd.string 9 w' w.heap.size (fun _ => True) (.slice Ao26 t126.length co26) t126) ∧ Aside0 (Below w.heap.size w w'))
      case atStart => exact ⟨(0), (by first | rfl | (simp; done) | (simp [*]; done)), H', ⟨Nat.le_refl _⟩, ⟨by (with_reducible repeat (first | apply Kd.R_alloc | apply Kd.R_drewN | apply Kd.R_drew)); exact HO128.out⟩, ⟨by (with_reducible repeat (first | apply Kd.R_alloc | apply Kd.R_drewN | apply Kd.R_drew)); exact HO128.out⟩, ⟨by repeat (first | (with_reducible first | exact HB.out | apply below_alloc | apply pw_below_drewN | apply below_drew1) | exact HB.out)⟩⟩
      clear H';obtain ⟨x58_4, rfl, HA, HK4, HO_8, HO_56, HB⟩ := hrel
      cases gk with
      | zero => exact absurd HA.out (by simp [r_Check.l1])
      | succ k4 =>
       have H := HA.out;clear HA;simp only [r_Check.l1] at H
       by_cases c27 : x58_4 < (t126.length : Int)
       ·
        rw [if_pos c27] at H;have c27b0 : decide (x58_4 < (t126.length : Int)) = true := decide_eq_true c27;clear c27
        by_cases c28 : 0 ≤ x58_4
        ·
         rw [if_pos c28] at H;have c28b0 : decide (0 ≤ x58_4) = true := decide_eq_true c28;clear c28
         by_cases c29 : x58_4 < (t126.length : Int)
         ·
          rw [if_pos c29] at H;have c29b0 : decide (x58_4 < (t126.length : Int)) = true := decide_eq_true c29;clear c29
          by_cases c30 : (rdOf ByteArray.empty t126 x58_4).toList = ([] : List UInt8)
          ·
           rw [if_pos c30] at H;have c30b0 : ((rdOf ByteArray.empty t126 x58_4).toList == ([] : List UInt8)) = true := beq_iff_eq.mpr c30;have c30b1 : ((rdOf ByteArray.empty t126 x58_4).toList != ([] : List UInt8)) = false := bne_eq_false_iff_eq.mpr c30;clear c30;simp only [Option.some.injEq, Prod.mk.injEq] at H;obtain ⟨rfl, rfl, rfl⟩ := H;have p129 : 0 ≤ (x58_4 : Int) := of_decide_eq_true (by first | (with_reducible assumption) | assumption);have q129 : x58_4 < (t126.length : Int) := of_decide_eq_true (by first | (with_reducible assumption) | assumption);obtain ⟨ad129, e129, hx129_0⟩ := Kd.at_string (Kd.R_reads' HO_56.out).2.2 x58_4 p129 q129;cases e129;replace p129 := eq_true p129;replace q129 := eq_true q129;go_wp2
           go_ret3
           exact ⟨by first | rfl | (simp [errW_none, errW_some] <;> rfl) | (simp only [← hji7]; first | rfl | (simp [errW_none, errW_some] <;> rfl)) | (simp [*, errW_none, errW_some] <;> rfl), by repeat (first | (with_reducible first | exact HB.out | apply below_alloc | apply pw_below_drewN | apply below_drew1) | exact HB.out)⟩
          rw [if_neg c30] at H;have c30b0 : ((rdOf ByteArray.empty t126 x58_4).toList == ([] : List UInt8)) = false := beq_eq_false_iff_ne.mpr c30;have c30b1 : ((rdOf ByteArray.empty t126 x58_4).toList != ([] : List UInt8)) = true := bne_iff_ne.mpr c30
          by_cases c31 : (rdOf ByteArray.empty t126 x58_4).toList = ([46] : List UInt8)
          ·
           rw [if_pos c31] at H;have c31b0 : ((rdOf ByteArray.empty t126 x58_4).toList == ([46] : List UInt8)) = true := beq_iff_eq.mpr c31;have c31b1 : ((rdOf ByteArray.empty t126 x58_4).toList != ([46] : List UInt8)) = false := bne_eq_false_iff_eq.mpr c31;clear c31;simp only [Option.some.injEq, Prod.mk.injEq] at H;obtain ⟨rfl, rfl, rfl⟩ := H;have p129 : 0 ≤ (x58_4 : Int) := of_decide_eq_true (by first | (with_reducible assumption) | assumption);have q129 : x58_4 < (t126.length : Int) := of_decide_eq_true (by first | (with_reducible assumption) | assumption);obtain ⟨ad129, e129, hx129_0⟩ := Kd.at_string (Kd.R_reads' HO_56.out).2.2 x58_4 p129 q129;cases e129;replace p129 := eq_true p129;replace q129 := eq_true q129;go_wp2
           go_ret3
           exact ⟨by first | rfl | (simp [errW_none, errW_some] <;> rfl) | (simp only [← hji7]; first | rfl | (simp [errW_none, errW_some] <;> rfl)) | (simp [*, errW_none, errW_some] <;> rfl), by repeat (first | (with_reducible first | exact HB.out | apply below_alloc | apply pw_below_drewN | apply below_drew1) | exact HB.out)⟩
          rw [if_neg c31] at H;have c31b0 : ((rdOf ByteArray.empty t126 x58_4).toList == ([46] : List UInt8)) = false := beq_eq_false_iff_ne.mpr c31;have c31b1 : ((rdOf ByteArray.empty t126 x58_4).toList != ([46] : List UInt8)) = true := bne_iff_ne.mpr c31
          by_cases c32 : (rdOf ByteArray.empty t126 x58_4).toList = ([46, 46] : List UInt8)
          ·
           rw [if_pos c32] at H;have c32b0 : ((rdOf ByteArray.empty t126 x58_4).toList == ([46, 46] : List UInt8)) = true := beq_iff_eq.mpr c32;have c32b1 : ((rdOf ByteArray.empty t126 x58_4).toList != ([46, 46] : List UInt8)) = false := bne_eq_false_iff_eq.mpr c32;clear c32;simp only [Option.some.injEq, Prod.mk.injEq] at H;obtain ⟨rfl, rfl, rfl⟩ := H;have p129 : 0 ≤ (x58_4 : Int) := of_decide_eq_true (by first | (with_reducible assumption) | assumption);have q129 : x58_4 < (t126.length : Int) := of_decide_eq_true (by first | (with_reducible assumption) | assumption);obtain ⟨ad129, e129, hx129_0⟩ := Kd.at_string (Kd.R_reads' HO_56.out).2.2 x58_4 p129 q129;cases e129;replace p129 := eq_true p129;replace q129 := eq_true q129;go_wp2
           go_ret3
           exact ⟨by first | rfl | (simp [errW_none, errW_some] <;> rfl) | (simp only [← hji7]; first | rfl | (simp [errW_none, errW_some] <;> rfl)) | (simp [*, errW_none, errW_some] <;> rfl), by repeat (first | (with_reducible first | exact HB.out | apply below_alloc | apply pw_below_drewN | apply below_drew1) | exact HB.out)⟩
          rw [if_neg c32] at H;have c32b0 : ((rdOf ByteArray.empty t126 x58_4).toList == ([46, 46] : List UInt8)) = false := beq_eq_false_iff_ne.mpr c32;have c32b1 : ((rdOf ByteArray.empty t126 x58_4).toList != ([46, 46] : List UInt8)) = true := bne_iff_ne.mpr c32;have H' := Aside0.mk H;clear H;have p129 : 0 ≤ (x58_4 : Int) := of_decide_eq_true (by first | (with_reducible assumption) | assumption);have q129 : x58_4 < (t126.length : Int) := of_decide_eq_true (by first | (with_reducible assumption) | assumption);obtain ⟨ad129, e129, hx129_0⟩ := Kd.at_string (Kd.R_reads' HO_56.out).2.2 x58_4 p129 q129;cases e129;replace p129 := eq_true p129;replace q129 := eq_true q129;go_wp2
          go_roundg k4
          case measure => have := HJ2.out; have := HJ10.out; have := HK3.out; have := HK4.out; omega
          case rel => exact ⟨(wrap64 (x58_4 + 1)), (by first | rfl | (simp; done) | (simp [*]; done)), H', ⟨by have := HJ2.out; have := HJ10.out; have := HK3.out; have := HK4.out; omega⟩, ⟨by (with_reducible repeat (first | apply Kd.R_alloc | apply Kd.R_drewN | apply Kd.R_drew)); exact HO_8.out⟩, ⟨by (with_reducible repeat (first | apply Kd.R_alloc | apply Kd.R_drewN | apply Kd.R_drew)); exact HO_56.out⟩, ⟨by repeat (first | (with_reducible first | exact HB.out | apply below_alloc | apply pw_below_drewN | apply below_drew1) | exact HB.out)⟩⟩
         rw [if_neg c29] at H;exact absurd H (by simp)
        rw [if_neg c28] at H;exact absurd H (by simp)
       rw [if_neg c27] at H;have c27b0 : decide (x58_4 < (t126.length : Int)) = false := decide_eq_false c27;clear c27;have H' := Aside0.mk H;clear H;go_wp2
       go_loopg [75] k4 (fun kq v75 w' => ∃ (x75_5 : Int), v75 = .int .i64 x75_5 ∧ Aside0 (r_Check.l2 kq x5_10 x6_10 t126 t126 (t126.length : Int) x75_5 = some (r1, r2, r3)) ∧ Aside0 (kq ≤ k4) ∧ Aside0 (Kd.R Kd.string 9 w' w.heap.size (fun _ => True) (.slice Ao26 t126.length co26) t126) ∧ Aside0 (Kd.R Kd.string 9 w' w.heap.size (fun _ => True) (.slice Ao26 t126.length co26) t126) ∧ Aside0 (Below w.heap.size w w'))
       case atStart => exact ⟨(0), (by first | rfl | (simp; done) | (simp [*]; done)), H', ⟨Nat.le_refl _⟩, ⟨by (with_reducible repeat (first | apply Kd.R_alloc | apply Kd.R_drewN | apply Kd.R_drew)); exact HO_8.out⟩, ⟨by (with_reducible repeat (first | apply Kd.R_alloc | apply Kd.R_drewN | apply Kd.R_drew)); exact HO_8.out⟩, ⟨by repeat (first | (with_reducible first | exact HB.out | apply below_alloc | apply pw_below_drewN | apply below_drew1) | exact HB.out)⟩⟩
       clear H';obtain ⟨x75_5, rfl, HA, HK5, HO_8, HO_73, HB⟩ := hrel
       cases gk with
       | zero => exact absurd HA.out (by simp [r_Check.l2])
       | succ k5 =>
        have H := HA.out;clear HA;simp only [r_Check.l2] at H
        by_cases c33 : x75_5 < (t126.length : Int)
        ·
         rw [if_pos c33] at H;have c33b0 : decide (x75_5 < (t126.length : Int)) = true := decide_eq_true c33;clear c33
         by_cases c34 : 0 ≤ x75_5
         ·
          rw [if_pos c34] at H;have c34b0 : decide (0 ≤ x75_5) = true := decide_eq_true c34;clear c34
          by_cases c35 : x75_5 < (t126.length : Int)
          ·
           rw [if_pos c35] at H;have c35b0 : decide (x75_5 < (t126.length : Int)) = true := decide_eq_true c35;clear c35
           by_cases c36 : ((rdOf ByteArray.empty t126 x75_5).size : Int) > 255
           ·
            rw [if_pos c36] at H;have c36b0 : decide (255 < ((rdOf ByteArray.empty t126 x75_5).size : Int)) = true := decide_eq_true c36;have c36b1 : decide (255 < (rdOf ByteArray.empty t126 x75_5).size) = true := decide_eq_true (by omega);clear c36;simp only [Option.some.injEq, Prod.mk.injEq] at H;obtain ⟨rfl, rfl, rfl⟩ := H;have p130 : 0 ≤ (x75_5 : Int) := of_decide_eq_true (by first | (with_reducible assumption) | assumption);have q130 : x75_5 < (t126.length : Int) := of_decide_eq_true (by first | (with_reducible assumption) | assumption);obtain ⟨ad130, e130, hx130_0⟩ := Kd.at_string (Kd.R_reads' HO_73.out).2.2 x75_5 p130 q130;cases e130;replace p130 := eq_true p130;replace q130 := eq_true q130;go_wp2
            go_ret3
            exact ⟨by first | rfl | (simp [errW_none, errW_some] <;> rfl) | (simp only [← hji7]; first | rfl | (simp [errW_none, errW_some] <;> rfl)) | (simp [*, errW_none, errW_some] <;> rfl), by repeat (first | (with_reducible first | exact HB.out | apply below_alloc | apply pw_below_drewN | apply below_drew1) | exact HB.out)⟩
           rw [if_neg c36] at H;have c36b0 : decide (255 < ((rdOf ByteArray.empty t126 x75_5).size : Int)) = false := decide_eq_false c36;have c36b1 : decide (255 < (rdOf ByteArray.empty t126 x75_5).size) = false := decide_eq_false (by omega);clear c36
           by_cases c37 : (t126.length : Int) > 32
           ·
            rw [if_pos c37] at H;have c37b0 : decide (32 < (t126.length : Int)) = true := decide_eq_true c37;have c37b1 : decide (32 < t126.length) = true := decide_eq_true (by omega);clear c37;simp only [Option.some.injEq, Prod.mk.injEq] at H;obtain ⟨rfl, rfl, rfl⟩ := H;have p130 : 0 ≤ (x75_5 : Int) := of_decide_eq_true (by first | (with_reducible assumption) | assumption);have q130 : x75_5 < (t126.length : Int) := of_decide_eq_true (by first | (with_reducible assumption) | assumption);obtain ⟨ad130, e130, hx130_0⟩ := Kd.at_string (Kd.R_reads' HO_73.out).2.2 x75_5 p130 q130;cases e130;replace p130 := eq_true p130;replace q130 := eq_true q130;go_wp2
            go_ret3
            exact ⟨by first | rfl | (simp [errW_none, errW_some] <;> rfl) | (simp only [← hji7]; first | rfl | (simp [errW_none, errW_some] <;> rfl)) | (simp [*, errW_none, errW_some] <;> rfl), by repeat (first | (with_reducible first | exact HB.out | apply below_alloc | apply pw_below_drewN | apply below_drew1) | exact HB.out)⟩
           rw [if_neg c37] at H;have c37b0 : decide (32 < (t126.length : Int)) = false := decide_eq_false c37;have c37b1 : decide (32 < t126.length) = false := decide_eq_false (by omega);clear c37;have H' := Aside0.mk H;clear H;have p130 : 0 ≤ (x75_5 : Int) := of_decide_eq_true (by first | (with_reducible assumption) | assumption);have q130 : x75_5 < (t126.length : Int) := of_decide_eq_true (by first | (with_reducible assumption) | assumption);obtain ⟨ad130, e130, hx130_0⟩ := Kd.at_string (Kd.R_reads' HO_73.out).2.2 x75_5 p130 q130;cases e130;replace p130 := eq_true p130;replace q130 := eq_true q130;go_wp2
           go_roundg k5
           case measure => have := HJ2.out; have := HJ10.out; have := HK3.out; have := HK4.out; have := HK5.out; omega
           case rel => exact ⟨(wrap64 (x75_5 + 1)), (by first | rfl | (simp; done) | (simp [*]; done)), H', ⟨by have := HJ2.out; have := HJ10.out; have := HK3.out; have := HK4.out; have := HK5.out; omega⟩, ⟨by (with_reducible repeat (first | apply Kd.R_alloc | apply Kd.R_drewN | apply Kd.R_drew)); exact HO_8.out⟩, ⟨by (with_reducible repeat (first | apply Kd.R_alloc | apply Kd.R_drewN | apply Kd.R_drew)); exact HO_73.out⟩, ⟨by repeat (first | (with_reducible first | exact HB.out | apply below_alloc | apply pw_below_drewN | apply below_drew1) | exact HB.out)⟩⟩
          rw [if_neg c35] at H;exact absurd H (by simp)
         rw [if_neg c34] at H;exact absurd H (by simp)
        rw [if_neg c33] at H;have c33b0 : decide (x75_5 < (t126.length : Int)) = false := decide_eq_false c33;clear c33;simp only [Option.some.injEq, Prod.mk.injEq] at H;obtain ⟨rfl, rfl, rfl⟩ := H;go_wp2
        go_ret3
        exact ⟨by first | rfl | (simp [errW_none, errW_some] <;> rfl) | (simp only [← hji7]; first | rfl | (simp [errW_none, errW_some] <;> rfl)) | (simp [*, errW_none, errW_some] <;> rfl), by repeat (first | (with_reducible first | exact HB.out | apply below_alloc | apply pw_below_drewN | apply below_drew1) | exact HB.out)⟩
   rw [if_neg c9] at H;exact absurd H (by simp)
  rw [if_neg c8] at H;exact absurd H (by simp)
end Go.Proofs.YtibmfjacfbpfgaaGreatDoor.PNm
