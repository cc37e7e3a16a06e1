/- PlanResults, walked: whatever the actions and the items, the law answers true. -/
import Derived.Test.YtpjjooiamdfmfaaGreatDoorPlanAwake
import Derived.Test.YtpjjooiamdfmfaaGreatDoorPlanCnt
import Derived.ChangeKeysEq
set_option linter.unusedVariables false
set_option linter.unusedSimpArgs false
namespace Go.Proofs.YtpjjooiamdfmfaaGreatDoor.PlanLaw
open Go.RowKit Go.ChangeShapes Go.WideShapes Go.Proofs.YtpjjooiamdfmfaaGreatDoorW.PrintWords Go.Proofs.YtpjjooiamdfmfaaGreatDoorW.PrintLast Go.Proofs.YtpjjooiamdfmfaaGreatDoorW.PrintMore Go.Proofs.YtpjjooiamdfmfaaGreatDoor.Item Go.Proofs.YtpjjooiamdfmfaaGreatDoor.ItemArg Go.Proofs.YtpjjooiamdfmfaaGreatDoor.Own Go.Proofs.YtpjjooiamdfmfaaGreatDoor.PlanAct Go.Proofs.YtpjjooiamdfmfaaGreatDoor.PlanRes Go.Proofs.YtpjjooiamdfmfaaGreatDoor.PlanCnt Go.Proofs.YtpjjooiamdfmfaaGreatDoor.NameLaw Go.Proofs.YtpjjooiamdfmfaaGreatDoor.NameWalk Go.Proofs.YtpjjooiamdfmfaaGreatDoor.NameUse

theorem eq5 (d : Nat) (w : World) (a0 a1 a2 a3 a4 : Int) : (Op.equalIn (d + 2) 51 (.agg #[.int .i64 a0, .int .i64 a1, .int .i64 a2, .int .i64 a3, .int .i64 a4]) (.agg #[.int .i64 a0, .int .i64 a1, .int .i64 a2, .int .i64 a3, .int .i64 a4])).run Tryz.prog w = .ok true w := by
  obtain ⟨i, hi⟩ : ∃ i, Tryz.prog.info? 3 = some i := by
    have h : (Tryz.prog.info? 3).isSome = true := by kernel_rfl
    exact Option.isSome_iff_exists.1 h
  rw [run_equalIn_array w (d + 1) _ _ Tryz.underlying51 hi, cInt]
  show (Op.eqItems (d + 1) 3 1 _ _ [0, 1, 2, 3, 4]).run Tryz.prog w = .ok true w
  have hp : ∀ (xs : Array Value) (j : Nat) (v : Int) , xs[j]? = some (.int .i64 v) → (part 3 xs j).run Tryz.prog w = .ok (.int .i64 v) w := fun xs j v h => by
    simp [part, isAgg, run_underlying Tryz.underlying3, h]
  have he : ∀ v : Int, (Op.equalIn (d + 1) 3 (.int .i64 v) (.int .i64 v)).run Tryz.prog w = .ok true w := fun v => by
    rw [run_equalIn_int w d 3 .i64 .i64 v v Tryz.underlying3]
    simp
  simp only [Op.eqItems, Sem.run_bind, Nat.mul_one, hp #[.int .i64 a0, .int .i64 a1, .int .i64 a2, .int .i64 a3, .int .i64 a4] 0 a0 rfl, hp #[.int .i64 a0, .int .i64 a1, .int .i64 a2, .int .i64 a3, .int .i64 a4] 1 a1 rfl, hp #[.int .i64 a0, .int .i64 a1, .int .i64 a2, .int .i64 a3, .int .i64 a4] 2 a2 rfl, hp #[.int .i64 a0, .int .i64 a1, .int .i64 a2, .int .i64 a3, .int .i64 a4] 3 a3 rfl, hp #[.int .i64 a0, .int .i64 a1, .int .i64 a2, .int .i64 a3, .int .i64 a4] 4 a4 rfl, he, Result.andThen_ok, Bool.not_true, Bool.false_eq_true, if_false, Sem.run_pure]
set_option maxHeartbeats 16000000 in
set_option maxRecDepth 100000 in
theorem plan_any (l : List Ac) (es t : List It) (A : Option Addr) (c : Nat) (B : Option Addr) (d : Nat) (C : Option Addr) (e : Nat) (W : World) (hl : ActC W A l) (he : ItemC W B es) (ht : ItemC W C t) :
    Calls Tryz.prog 6 #[.slice A l.length c, .slice B es.length d, .slice C t.length e] W fun e w' => e = .returned (.bool true) ∧ Below W.heap.size W w' := by
  have HL := Lib.hid hl
  have HE := Lib.hid he
  have HT := Lib.hid ht
  have HAW := Lib.hid (PlanAwake.awake_any W)
  clear hl he ht
  go_enter Tryz.func6, Tryz.ntmps6
  go_wp2_with fail
  refine HAW.out.mono ?_
  rintro e w1 ⟨rfl, hb⟩
  have HB := Lib.hid hb
  have HL := Lib.hid (Kd.C_below HL.out hb)
  have HE := Lib.hid (Kd.C_below HE.out hb)
  have HT := Lib.hid (Kd.C_below HT.out hb)
  clear hb HAW
  by_cases hn : 100 < l.length
  · have hnI : (100 : Int) < l.length := by omega
    go_wp2
    go_ret
    exact ⟨rfl, HB.out⟩
  have hnI : ¬ (100 : Int) < l.length := by omega
  have HF1 := Lib.hid (few_any es B d w1 HE.out)
  generalize fewP es = f1 at *
  go_wp2_with fail
  refine HF1.out.mono ?_
  rintro e w2 ⟨rfl, hb⟩
  have HB := Lib.hid (below_next HB.out hb)
  have HL := Lib.hid (Kd.C_below HL.out hb)
  have HE := Lib.hid (Kd.C_below HE.out hb)
  have HT := Lib.hid (Kd.C_below HT.out hb)
  clear hb HF1
  cases f1 with
  | false =>
    go_wp2
    go_ret
    exact ⟨rfl, HB.out⟩
  | true =>
  have HF2 := Lib.hid (few_any t C e w2 HT.out)
  generalize fewP t = f2 at *
  go_wp2_with fail
  refine HF2.out.mono ?_
  rintro e w3 ⟨rfl, hb⟩
  have HB := Lib.hid (below_next HB.out hb)
  have HL := Lib.hid (Kd.C_below HL.out hb)
  have HE := Lib.hid (Kd.C_below HE.out hb)
  have HT := Lib.hid (Kd.C_below HT.out hb)
  clear hb HF2
  cases f2 with
  | false =>
    go_wp2
    go_ret
    exact ⟨rfl, HB.out⟩
  | true =>
  have HR1 := Lib.hid (result_any es t l A c B d C e w3 HL.out HE.out HT.out (by omega))
  go_wp2_with fail
  refine HR1.out.mono ?_
  rintro e w4 ⟨v, rfl, hr, hb⟩
  obtain ⟨A1, c1, hv, _, hC1⟩ := Kd.R_reads hr
  subst hv
  have HC1 := Lib.hid hC1
  have HB := Lib.hid (below_next HB.out hb)
  have HL := Lib.hid (Kd.C_below HL.out hb)
  have HE := Lib.hid (Kd.C_below HE.out hb)
  have HT := Lib.hid (Kd.C_below HT.out hb)
  clear hb hr hC1 HR1
  have HO1 := Lib.hid (to_any l A c w4 HL.out (by omega))
  go_wp2_with fail
  refine HO1.out.mono ?_
  rintro e w5 ⟨v, rfl, hr, hb⟩
  obtain ⟨A2, c2, hv, _, hC2⟩ := Kd.R_reads hr
  subst hv
  have HB := Lib.hid (below_next HB.out hb)
  have HL := Lib.hid (Kd.C_below HL.out hb)
  have HE := Lib.hid (Kd.C_below HE.out hb)
  have HT := Lib.hid (Kd.C_below HT.out hb)
  have HC1 := Lib.hid (Kd.C_below HC1.out hb)
  have HR2 := Lib.hid (rresult_any es t l A2 c2 B d C e w5 hC2 HE.out HT.out (by omega))
  clear hb hr hC2 HO1
  go_wp2_with fail
  refine HR2.out.mono ?_
  rintro e w6 ⟨v, rfl, hr, hb⟩
  obtain ⟨A3, c3, hv, _, hC3⟩ := Kd.R_reads hr
  subst hv
  have HS := Lib.hid (same_any (resP es t l) (resP es t l) A1 c1 A3 c3 w6 (Kd.C_below HC1.out hb) hC3)
  rw [decide_eq_true (rfl : resP es t l = resP es t l)] at HS
  have HB := Lib.hid (below_next HB.out hb)
  have HL := Lib.hid (Kd.C_below HL.out hb)
  have HE := Lib.hid (Kd.C_below HE.out hb)
  have HT := Lib.hid (Kd.C_below HT.out hb)
  clear hb hr hC3 HR2 HC1
  go_wp2_with fail
  refine HS.out.mono ?_
  rintro e w7 ⟨rfl, hb⟩
  have HB := Lib.hid (below_next HB.out hb)
  have HL := Lib.hid (Kd.C_below HL.out hb)
  have HE := Lib.hid (Kd.C_below HE.out hb)
  have HT := Lib.hid (Kd.C_below HT.out hb)
  clear hb HS
  have HN1 := Lib.hid (count_any l A c w7 HL.out (by omega))
  have HN2 : Hid (∀ (A' : Option Addr) (c' : Nat) (W' : World), ActC W' A' l → Calls Tryz.prog 37 #[.slice A' l.length c'] W' _) := Lib.hid (fun A' c' W' h => rcount_any l A' c' W' h (by omega))
  generalize cntP 1 l = c1 at *
  generalize cntP 2 l = c2 at *
  generalize cntP 3 l = c3 at *
  generalize cntP 4 l = c4 at *
  go_wp2_with fail
  refine HN1.out.mono ?_
  rintro e w8 ⟨rfl, hb⟩
  have HB := Lib.hid (below_next HB.out hb)
  have HL := Lib.hid (Kd.C_below HL.out hb)
  have HE := Lib.hid (Kd.C_below HE.out hb)
  have HT := Lib.hid (Kd.C_below HT.out hb)
  clear hb HN1
  have HO2 := Lib.hid (to_any l A c w8 HL.out (by omega))
  go_wp2_with fail
  refine HO2.out.mono ?_
  rintro e w9 ⟨v, rfl, hr, hb⟩
  obtain ⟨A4, d4, hv, _, hC4⟩ := Kd.R_reads hr
  subst hv
  have HN3 := Lib.hid (HN2.out A4 d4 w9 hC4)
  have HB := Lib.hid (below_next HB.out hb)
  have HL := Lib.hid (Kd.C_below HL.out hb)
  have HE := Lib.hid (Kd.C_below HE.out hb)
  have HT := Lib.hid (Kd.C_below HT.out hb)
  clear hb hr hC4 HO2 HN2
  go_wp2_with fail
  refine HN3.out.mono ?_
  rintro e w10 ⟨rfl, hb⟩
  have HB := Lib.hid (below_next HB.out hb)
  have heq := fun (dd : Nat) (V : World) => eq5 dd V 0 (c1 : Nat) (c2 : Nat) (c3 : Nat) (c4 : Nat)
  clear hb HN3
  go_wp2
  go_ret
  exact ⟨rfl, HB.out⟩
set_option maxRecDepth 100000 in
theorem walk (v0 v1 v2 : Value) (W : World) {H : Type} {enc : TypeId × Value → H} {b0 b1 b2 : Nat} {d0 d1 d2 : DataW H} {p0 p1 p2 : List MemPlace}
    (k0 : Value.okWide Tryz.prog W .any b0 46 v0) (h0 : DataW.Trod enc Tryz.prog W 0 (fun _ => true) true 46 v0 d0 p0)
    (k1 : Value.okWide Tryz.prog W .any b1 22 v1) (h1 : DataW.Trod enc Tryz.prog W 0 (fun _ => true) true 22 v1 d1 p1)
    (k2 : Value.okWide Tryz.prog W .any b2 22 v2) (h2 : DataW.Trod enc Tryz.prog W 0 (fun _ => true) true 22 v2 d2 p2) (hg : Glob W) :
    Calls Tryz.prog 6 #[v0, v1, v2] W fun e w' => e = .returned (.bool true) ∧ Below W.heap.size W w' := by
  obtain ⟨A, c, l, rfl, hl⟩ := open_acts k0 h0
  obtain ⟨B, d, m, rfl, hm⟩ := open_items k1 h1
  obtain ⟨C, e, n, rfl, hn⟩ := open_items k2 h2
  exact plan_any l m n A c B d C e W hl hm hn
end Go.Proofs.YtpjjooiamdfmfaaGreatDoor.PlanLaw
