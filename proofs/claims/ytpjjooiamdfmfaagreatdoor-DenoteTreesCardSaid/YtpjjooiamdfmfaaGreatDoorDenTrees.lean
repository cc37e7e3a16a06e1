/- DenoteTrees, walked: whatever the two lists, the law answers true. -/
import Derived.Test.YtpjjooiamdfmfaaGreatDoorDenOver
import Derived.Test.YtpjjooiamdfmfaaGreatDoorROver
import Derived.Test.YtpjjooiamdfmfaaGreatDoorROdds
set_option linter.unusedVariables false
set_option linter.unusedSimpArgs false
namespace Go.Proofs.YtpjjooiamdfmfaaGreatDoor.DenTrees
open Go.RowKit Go.ChangeShapes Go.WideShapes Go.Proofs.YtpjjooiamdfmfaaGreatDoorW.PrintWords Go.Proofs.YtpjjooiamdfmfaaGreatDoorW.PrintLast Go.Proofs.YtpjjooiamdfmfaaGreatDoorW.PrintMore Go.Proofs.YtpjjooiamdfmfaaGreatDoor.Item Go.Proofs.YtpjjooiamdfmfaaGreatDoor.Own Go.Proofs.YtpjjooiamdfmfaaGreatDoor.TreeLaw Go.Proofs.YtpjjooiamdfmfaaGreatDoor.NameLaw Go.Proofs.YtpjjooiamdfmfaaGreatDoor.NameWalk Go.Proofs.YtpjjooiamdfmfaaGreatDoor.NameOrd Go.Proofs.YtpjjooiamdfmfaaGreatDoor.NameRef Go.Proofs.YtpjjooiamdfmfaaGreatDoor.NameUse Go.Proofs.YtpjjooiamdfmfaaGreatDoor.SortIns Go.Proofs.YtpjjooiamdfmfaaGreatDoor.OverLaw Go.Proofs.YtpjjooiamdfmfaaGreatDoor.Odds Go.Proofs.YtpjjooiamdfmfaaGreatDoor.Over Go.Proofs.YtpjjooiamdfmfaaGreatDoor.ROver Go.Proofs.YtpjjooiamdfmfaaGreatDoor.ROdds Go.Proofs.YtpjjooiamdfmfaaGreatDoor.DenOver

set_option maxHeartbeats 16000000 in
set_option maxRecDepth 100000 in
theorem trees_any (t u : List It) (A : Option Addr) (c : Nat) (B : Option Addr) (d : Nat) (W : World) (hg : Glob W) (ht : ItemC W A t) (hu : ItemC W B u) (hc : t.length ≤ c) :
    Calls Tryz.prog 3 #[.slice A t.length c, .slice B u.length d] W fun e w' => e = .returned (.bool true) ∧ Below W.heap.size W w' := by
  have HT := Lib.hid ht
  have HU := Lib.hid hu
  have HG := Lib.hid hg
  have HAW := Lib.hid (Tail0.awake_any W)
  clear ht hu hg
  go_enter Tryz.func3, Tryz.ntmps3
  go_wp2_with fail
  refine HAW.out.mono ?_
  rintro e w1 ⟨rfl, hb⟩
  have HB := Lib.hid hb
  have HT := Lib.hid (Kd.C_below HT.out hb)
  have HU := Lib.hid (Kd.C_below HU.out hb)
  clear hb HAW
  have HF1 := Lib.hid (few_any t A c w1 HT.out)
  have HS1 := Lib.hid (fun h => few_spec (l := t) h)
  generalize fewP t = f1 at *
  go_wp2_with fail
  refine HF1.out.mono ?_
  rintro e w2 ⟨rfl, hb⟩
  have HB := Lib.hid (below_next HB.out hb)
  have HT := Lib.hid (Kd.C_below HT.out hb)
  have HU := Lib.hid (Kd.C_below HU.out hb)
  clear hb HF1
  cases f1 with
  | false =>
    go_wp2
    go_ret
    exact ⟨rfl, HB.out⟩
  | true =>
  have HF2 := Lib.hid (few_any u B d w2 HU.out)
  have HS2 := Lib.hid (fun h => few_spec (l := u) h)
  generalize fewP u = f2 at *
  go_wp2_with fail
  refine HF2.out.mono ?_
  rintro e w3 ⟨rfl, hb⟩
  have HB := Lib.hid (below_next HB.out hb)
  have HT := Lib.hid (Kd.C_below HT.out hb)
  have HU := Lib.hid (Kd.C_below HU.out hb)
  clear hb HF2
  cases f2 with
  | false =>
    go_wp2
    go_ret
    exact ⟨rfl, HB.out⟩
  | true =>
  have hs1 := HS1.out (by trivial)
  have hs2 := HS2.out (by trivial)
  have hn1 := hs1.1
  have hn2 := hs2.1
  have HZ1 : Hid (∀ x ∈ t, x.1.size ≤ 1000) := Lib.hid (fun x hx => (hs1.2 x hx).1)
  have HZ2 : Hid (∀ x ∈ u, x.1.size ≤ 1000) := Lib.hid (fun x hx => (hs2.2 x hx).1)
  clear hs1 hs2 HS1 HS2
  have HO1 := Lib.hid (dodds_any t A c w3 HT.out hc)
  go_wp2_with fail
  refine HO1.out.mono ?_
  rintro e w4 ⟨rfl, hb⟩
  have HB := Lib.hid (below_next HB.out hb)
  have HT := Lib.hid (Kd.C_below HT.out hb)
  have HU := Lib.hid (Kd.C_below HU.out hb)
  clear hb HO1
  have HO2 := Lib.hid (rodds_any t A c w4 HT.out (fun x hx => by have := HZ1.out x hx; omega))
  go_wp2_with fail
  refine HO2.out.mono ?_
  rintro e w5 ⟨rfl, hb⟩
  have HB := Lib.hid (below_next HB.out hb)
  have HT := Lib.hid (Kd.C_below HT.out hb)
  have HU := Lib.hid (Kd.C_below HU.out hb)
  clear hb HO2
  have HG := Lib.hid (HG.out.below HB.out)
  have HV1 := Lib.hid (over_any t u A c B d w5 HG.out HT.out HU.out (by omega) (by omega) (fun x hx => by have := HZ1.out x hx; omega) (fun x hx => by have := HZ2.out x hx; omega))
  generalize (oddsP t).1 = q1 at *
  generalize (oddsP t).2 = q2 at *
  cases q2 <;> (
    go_wp2_with fail
    refine HV1.out.mono ?_
    rintro e w6 ⟨v, rfl, hr, hb⟩
    obtain ⟨A1, c1, hv, _, hC1⟩ := Kd.R_reads hr
    subst hv
    have HB := Lib.hid (below_next HB.out hb)
    have HT := Lib.hid (Kd.C_below HT.out hb)
    have HU := Lib.hid (Kd.C_below HU.out hb)
    have HC1 := Lib.hid hC1
    clear hb hr hC1 HV1
    have HV2 := Lib.hid (rover_any t u A c B d w6 HT.out HU.out (by omega) (by omega) (fun x hx => by have := HZ1.out x hx; omega) (fun x hx => by have := HZ2.out x hx; omega))
    go_wp2_with fail
    refine HV2.out.mono ?_
    rintro e w7 ⟨v, rfl, hr, hb⟩
    obtain ⟨A2, c2, hv, _, hC2⟩ := Kd.R_reads hr
    subst hv
    have HB := Lib.hid (below_next HB.out hb)
    have HS := Lib.hid (same_any (overP t u) (overP t u) A1 c1 A2 c2 w7 (Kd.C_below HC1.out hb) hC2)
    rw [decide_eq_true (rfl : overP t u = overP t u)] at HS
    clear hb hr hC2 HV2
    go_wp2_with fail
    refine HS.out.mono ?_
    rintro e w8 ⟨rfl, hb⟩
    have HB := Lib.hid (below_next HB.out hb)
    clear hb HS
    go_wp2
    go_ret
    exact ⟨rfl, HB.out⟩)
set_option maxRecDepth 100000 in
theorem walk (v0 v1 : Value) (W : World) {H : Type} {enc : TypeId × Value → H} {b0 b1 : Nat} {d0 d1 : DataW H} {p0 p1 : List MemPlace}
    (k0 : Value.okWide Tryz.prog W .any b0 22 v0) (h0 : DataW.Trod enc Tryz.prog W 0 (fun _ => true) true 22 v0 d0 p0)
    (k1 : Value.okWide Tryz.prog W .any b1 22 v1) (h1 : DataW.Trod enc Tryz.prog W 0 (fun _ => true) true 22 v1 d1 p1) (hg : Glob W) :
    Calls Tryz.prog 3 #[v0, v1] W fun e w' => e = .returned (.bool true) ∧ Below W.heap.size W w' := by
  obtain ⟨A, c, l, rfl, hl, hc⟩ := ItemArg.open_items_cap k0 h0
  obtain ⟨B, d, m, rfl, hm⟩ := ItemArg.open_items k1 h1
  exact trees_any l m A c B d W hg hl hm hc
end Go.Proofs.YtpjjooiamdfmfaaGreatDoor.DenTrees
