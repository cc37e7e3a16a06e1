/- DenoteOver, walked: whatever the two lists, the law answers true. -/
import Derived.Test.YtpjjooiamdfmfaaGreatDoorTail0
import Derived.Test.YtpjjooiamdfmfaaGreatDoorOver
import Derived.Test.YtpjjooiamdfmfaaGreatDoorTreeRight
import Derived.Test.YtpjjooiamdfmfaaGreatDoorItemArg
set_option linter.unusedVariables false
set_option linter.unusedSimpArgs false
namespace Go.Proofs.YtpjjooiamdfmfaaGreatDoor.DenOver
open Go.RowKit Go.ChangeShapes Go.WideShapes Go.Proofs.YtpjjooiamdfmfaaGreatDoorW.PrintWords Go.Proofs.YtpjjooiamdfmfaaGreatDoorW.PrintLast Go.Proofs.YtpjjooiamdfmfaaGreatDoorW.PrintMore Go.Proofs.YtpjjooiamdfmfaaGreatDoor.Item Go.Proofs.YtpjjooiamdfmfaaGreatDoor.Own Go.Proofs.YtpjjooiamdfmfaaGreatDoor.TreeLaw Go.Proofs.YtpjjooiamdfmfaaGreatDoor.NameLaw Go.Proofs.YtpjjooiamdfmfaaGreatDoor.NameWalk Go.Proofs.YtpjjooiamdfmfaaGreatDoor.NameOrd Go.Proofs.YtpjjooiamdfmfaaGreatDoor.NameRef Go.Proofs.YtpjjooiamdfmfaaGreatDoor.NameUse Go.Proofs.YtpjjooiamdfmfaaGreatDoor.SortIns Go.Proofs.YtpjjooiamdfmfaaGreatDoor.NodeRes Go.Proofs.YtpjjooiamdfmfaaGreatDoor.TreeRef Go.Proofs.YtpjjooiamdfmfaaGreatDoor.TreeRight Go.Proofs.YtpjjooiamdfmfaaGreatDoor.OverLaw Go.Proofs.YtpjjooiamdfmfaaGreatDoor.Over

theorem few_spec {l : List It} (h : fewP l = true) : l.length ≤ 60 ∧ ∀ x ∈ l, x.1.size ≤ 1000 ∧ x.2.2.2.2.2.2.2.size ≤ 5000 := by
  unfold fewP at h
  rw [List.all_eq_true] at h
  have h1 : ∀ x ∈ l, l.length ≤ 60 ∧ x.1.size ≤ 1000 ∧ x.2.2.2.2.2.2.2.size ≤ 5000 := by
    intro x hx
    have h2 := h x hx
    simp [okI] at h2
    exact ⟨h2.1.1, h2.1.2, h2.2⟩
  refine ⟨?_, fun x hx => (h1 x hx).2⟩
  cases l with
  | nil => simp
  | cons x t => exact (h1 x (by simp)).1
theorem right16_strict {t : List It} (h : right16 t = true) : Strict t := by
  unfold right16 rightB at h
  rw [Bool.and_eq_true] at h
  exact ((right_iff t).1 (@of_decide_eq_true _ (Classical.propDecidable _) h.2)).1
theorem over_len (t u : List It) : (overP t u).length ≤ t.length + u.length := by
  unfold overP
  rw [sort_length, List.length_append]
  have : (restP t u).length ≤ t.length := List.length_filter_le _ _
  omega
theorem over_sizes {t u : List It} {n : Nat} (ht : ∀ x ∈ t, x.1.size ≤ n) (hu : ∀ x ∈ u, x.1.size ≤ n) : ∀ x ∈ overP t u, x.1.size ≤ n := fun x hx => by
  rcases over_mem.1 hx with h | h
  · exact ht x h.1
  · exact hu x h
theorem nil_C (w : World) : ItemC w none [] := ⟨rfl, by simp, fun h => absurd h (by simp)⟩
set_option maxHeartbeats 16000000 in
set_option maxRecDepth 100000 in
theorem dover_any (t u : List It) (A : Option Addr) (c : Nat) (B : Option Addr) (d : Nat) (W : World) (hg : Glob W) (ht : ItemC W A t) (hu : ItemC W B u) :
    Calls Tryz.prog 4 #[.slice A t.length c, .slice B u.length d] W fun e w' => e = .returned (.bool true) ∧ Below W.heap.size W w' := by
  have HT := Lib.hid ht
  have HU := Lib.hid hu
  have HG := Lib.hid hg
  have HAW := Lib.hid (Tail0.awake_any W)
  clear ht hu hg
  go_enter Tryz.func4, Tryz.ntmps4
  go_wp2_with fail
  refine HAW.out.mono ?_
  rintro e w1 ⟨rfl, hb⟩
  have HB := Lib.hid hb
  have HT := Lib.hid (Kd.C_below HT.out hb)
  have HU := Lib.hid (Kd.C_below HU.out hb)
  clear hb HAW
  have HF1 := Lib.hid (few_any t A c w1 HT.out)
  have HS1 := Lib.hid (fun h => few_spec (l := t) h)
  generalize fewP t = f1 at *
  go_wp2_with fail
  refine HF1.out.mono ?_
  rintro e w2 ⟨rfl, hb⟩
  have HB := Lib.hid (below_next HB.out hb)
  have HT := Lib.hid (Kd.C_below HT.out hb)
  have HU := Lib.hid (Kd.C_below HU.out hb)
  clear hb HF1
  cases f1 with
  | false =>
    go_wp2
    go_ret
    exact ⟨rfl, HB.out⟩
  | true =>
  have HF2 := Lib.hid (few_any u B d w2 HU.out)
  have HS2 := Lib.hid (fun h => few_spec (l := u) h)
  generalize fewP u = f2 at *
  go_wp2_with fail
  refine HF2.out.mono ?_
  rintro e w3 ⟨rfl, hb⟩
  have HB := Lib.hid (below_next HB.out hb)
  have HT := Lib.hid (Kd.C_below HT.out hb)
  have HU := Lib.hid (Kd.C_below HU.out hb)
  clear hb HF2
  cases f2 with
  | false =>
    go_wp2
    go_ret
    exact ⟨rfl, HB.out⟩
  | true =>
  have hs1 := HS1.out (by trivial)
  have hs2 := HS2.out (by trivial)
  have hn1 := hs1.1
  have hn2 := hs2.1
  have HZ1 : Hid (∀ x ∈ t, x.1.size ≤ 1000) := Lib.hid (fun x hx => (hs1.2 x hx).1)
  have HZ2 : Hid (∀ x ∈ u, x.1.size ≤ 1000) := Lib.hid (fun x hx => (hs2.2 x hx).1)
  clear hs1 hs2 HS1 HS2
  have HR1 := Lib.hid (rright16_any t A c w3 HT.out (by omega) (fun x hx => by have := HZ1.out x hx; omega))
  have HP1 := Lib.hid (fun h => right16_strict (t := t) h)
  generalize right16 t = r1 at *
  go_wp2_with fail
  refine HR1.out.mono ?_
  rintro e w4 ⟨rfl, hb⟩
  have HB := Lib.hid (below_next HB.out hb)
  have HT := Lib.hid (Kd.C_below HT.out hb)
  have HU := Lib.hid (Kd.C_below HU.out hb)
  clear hb HR1
  cases r1 with
  | false =>
    go_wp2
    go_ret
    exact ⟨rfl, HB.out⟩
  | true =>
  have HR2 := Lib.hid (rright16_any u B d w4 HU.out (by omega) (fun x hx => by have := HZ2.out x hx; omega))
  have HP2 := Lib.hid (fun h => right16_strict (t := u) h)
  generalize right16 u = r2 at *
  go_wp2_with fail
  refine HR2.out.mono ?_
  rintro e w5 ⟨rfl, hb⟩
  have HB := Lib.hid (below_next HB.out hb)
  have HT := Lib.hid (Kd.C_below HT.out hb)
  have HU := Lib.hid (Kd.C_below HU.out hb)
  clear hb HR2
  cases r2 with
  | false =>
    go_wp2
    go_ret
    exact ⟨rfl, HB.out⟩
  | true =>
  have HQ1 : Hid (Strict t) := Lib.hid (HP1.out (by trivial))
  have HQ2 : Hid (Strict u) := Lib.hid (HP2.out (by trivial))
  clear HP1 HP2
  have HG := Lib.hid (HG.out.below HB.out)
  have HO := Lib.hid (over_any t u A c B d w5 HG.out HT.out HU.out (by omega) (by omega) (fun x hx => by have := HZ1.out x hx; omega) (fun x hx => by have := HZ2.out x hx; omega))
  go_wp2_with fail
  refine HO.out.mono ?_
  rintro e w6 ⟨v, rfl, hr, hb⟩
  obtain ⟨Ao, co, hv, hco, hC⟩ := Kd.R_reads hr
  subst hv
  have HB := Lib.hid (below_next HB.out hb)
  have HT := Lib.hid (Kd.C_below HT.out hb)
  have HU := Lib.hid (Kd.C_below HU.out hb)
  have HG := Lib.hid (HG.out.below hb)
  have HC := Lib.hid hC
  have HZO := Lib.hid (over_sizes HZ1.out HZ2.out)
  have HLO := Lib.hid (over_len t u)
  have HFR : Hid (∀ x ∈ overP t u, findP u x.1 = some x ∨ (findP u x.1 = none ∧ findP t x.1 = some x)) := Lib.hid (fun x hx => over_from HQ1.out HQ2.out hx)
  have HHS : Hid (∀ x ∈ t ++ u, (findP (overP t u) x.1).isSome = true) := Lib.hid (fun x hx => over_has hx)
  have HAG := Lib.hid (over_again t u)
  have HNI := Lib.hid (over_nil HQ1.out)
  clear hb hr hC HO
  generalize overP t u = o at *
  have hol := HLO.out
  go_wp2
  go_loopw [41] (fun v wr => ∃ k : Nat, k ≤ o.length ∧ v = .int .i64 k ∧ Hid (Below w6.heap.size w6 wr)) (fun v _ => o.length - (intOf v).toNat)
  case atStart => exact ⟨0, by omega, rfl, Lib.hid (Below.refl _ _)⟩
  case round =>
    obtain ⟨k, hk, rfl, HW⟩ := hrel
    by_cases hlt : k < o.length
    · obtain ⟨ad, rfl, e0, e1, e2, e3, e4, e5, e6, e7⟩ := item_at (Kd.C_below HC.out HW.out) hlt
      have hltI : (k : Int) < o.length := by omega
      have hfr := HFR.out _ (List.getElem_mem hlt)
      generalize o[k] = x at *
      obtain ⟨x0, x1, x2, x3, x4, x5, x6, x7⟩ := x
      simp only at e0 e1 e2 e3 e4 e5 e6 e7 hfr
      have hb := below_one wr (.cells #[.string x0, .int .i64 x1, .int .u32 x2, .int .u32 x3, .int .u32 x4, .int .i64 x5, .int .i64 x6, .string x7] 33)
      have HX := Lib.hid (heap_new wr (.cells #[.string x0, .int .i64 x1, .int .u32 x2, .int .u32 x3, .int .u32 x4, .int .i64 x5, .int .i64 x6, .string x7] 33))
      have HW2 := Lib.hid (below_next HW.out hb)
      have c0 : (wr.alloc (.cells #[.string x0, .int .i64 x1, .int .u32 x2, .int .u32 x3, .int .u32 x4, .int .i64 x5, .int .i64 x6, .string x7] 33)).cell? ⟨wr.heap.size, 0, none⟩ = some (.string x0) := by rw [cell_of HX.out]; rfl
      have he := fun (dd : Nat) (V : World) => eqNode dd V x1 x1 x2 x2 x3 x3 x4 x4 x5 x5 x6 x6 x7 x7
      simp only [beq_self_eq_true, Bool.and_self] at he
      have HF3 := Lib.hid (rfind_any u B d x0 _ (Kd.C_below HU.out HW2.out))
      clear hb HW
      go_wp2_with fail
      clear c0 e0 e1 e2 e3 e4 e5 e6 e7
      generalize wr.alloc (.cells #[.string x0, .int .i64 x1, .int .u32 x2, .int .u32 x3, .int .u32 x4, .int .i64 x5, .int .i64 x6, .string x7] 33) = wa at *
      generalize wr.heap.size = bx at *
      rcases hfr with hfu | ⟨hfu, hft⟩
      · rw [hfu] at HF3
        refine HF3.out.mono ?_
        rintro e wb ⟨rfl, hb⟩
        have HX := Lib.hid ((hb.block _ (Array.getElem?_eq_some_iff.1 HX.out).1).trans HX.out)
        have HW3 := Lib.hid (below_next HW2.out hb)
        clear hb HF3 HW2
        have hb := below_one wb (.cells #[.int .i64 x1, .int .u32 x2, .int .u32 x3, .int .u32 x4, .int .i64 x5, .int .i64 x6, .string x7] 31)
        have HX := Lib.hid ((hb.block _ (Array.getElem?_eq_some_iff.1 HX.out).1).trans HX.out)
        have HN := Lib.hid (heap_new wb (.cells #[.int .i64 x1, .int .u32 x2, .int .u32 x3, .int .u32 x4, .int .i64 x5, .int .i64 x6, .string x7] 31))
        have HW4 := Lib.hid (below_next HW3.out hb)
        clear hb
        have HF4 := Lib.hid (rfind_any t A c x0 _ (Kd.C_below HT.out HW4.out))
        have c0 : (wb.alloc (.cells #[.int .i64 x1, .int .u32 x2, .int .u32 x3, .int .u32 x4, .int .i64 x5, .int .i64 x6, .string x7] 31)).cell? ⟨bx, 0, none⟩ = some (.string x0) := by rw [cell_of HX.out]; rfl
        simp only [aggN, nodeOf, Option.isSome]
        go_wp2_with fail
        clear c0
        generalize wb.alloc (.cells #[.int .i64 x1, .int .u32 x2, .int .u32 x3, .int .u32 x4, .int .i64 x5, .int .i64 x6, .string x7] 31) = wc at *
        generalize wb.heap.size = bn at *
        generalize hnn : nodeOf (findP t x0) = nn at *
        generalize (findP t x0).isSome = b2 at *
        clear hnn
        obtain ⟨n0, n1, n2, n3, n4, n5, n6⟩ := nn
        refine HF4.out.mono ?_
        rintro e we ⟨rfl, hb⟩
        have HX := Lib.hid ((hb.block _ (Array.getElem?_eq_some_iff.1 HX.out).1).trans HX.out)
        have HN := Lib.hid ((hb.block _ (Array.getElem?_eq_some_iff.1 HN.out).1).trans HN.out)
        have HW5 := Lib.hid (below_next HW4.out hb)
        clear hb HF4 HW3 HW4
        have hb := below_one we (.cells #[.int .i64 n0, .int .u32 n1, .int .u32 n2, .int .u32 n3, .int .i64 n4, .int .i64 n5, .string n6] 31)
        have HX := Lib.hid ((hb.block _ (Array.getElem?_eq_some_iff.1 HX.out).1).trans HX.out)
        have HN := Lib.hid ((hb.block _ (Array.getElem?_eq_some_iff.1 HN.out).1).trans HN.out)
        have HW6 := Lib.hid (below_next HW5.out hb)
        clear hb HW5
        have c1 : (we.alloc (.cells #[.int .i64 n0, .int .u32 n1, .int .u32 n2, .int .u32 n3, .int .i64 n4, .int .i64 n5, .string n6] 31)).cell? ⟨bx, 1, none⟩ = some (.int .i64 x1) := by rw [cell_of HX.out]; rfl
        have c2 : (we.alloc (.cells #[.int .i64 n0, .int .u32 n1, .int .u32 n2, .int .u32 n3, .int .i64 n4, .int .i64 n5, .string n6] 31)).cell? ⟨bx, 2, none⟩ = some (.int .u32 x2) := by rw [cell_of HX.out]; rfl
        have c3 : (we.alloc (.cells #[.int .i64 n0, .int .u32 n1, .int .u32 n2, .int .u32 n3, .int .i64 n4, .int .i64 n5, .string n6] 31)).cell? ⟨bx, 3, none⟩ = some (.int .u32 x3) := by rw [cell_of HX.out]; rfl
        have c4 : (we.alloc (.cells #[.int .i64 n0, .int .u32 n1, .int .u32 n2, .int .u32 n3, .int .i64 n4, .int .i64 n5, .string n6] 31)).cell? ⟨bx, 4, none⟩ = some (.int .u32 x4) := by rw [cell_of HX.out]; rfl
        have c5 : (we.alloc (.cells #[.int .i64 n0, .int .u32 n1, .int .u32 n2, .int .u32 n3, .int .i64 n4, .int .i64 n5, .string n6] 31)).cell? ⟨bx, 5, none⟩ = some (.int .i64 x5) := by rw [cell_of HX.out]; rfl
        have c6 : (we.alloc (.cells #[.int .i64 n0, .int .u32 n1, .int .u32 n2, .int .u32 n3, .int .i64 n4, .int .i64 n5, .string n6] 31)).cell? ⟨bx, 6, none⟩ = some (.int .i64 x6) := by rw [cell_of HX.out]; rfl
        have c7 : (we.alloc (.cells #[.int .i64 n0, .int .u32 n1, .int .u32 n2, .int .u32 n3, .int .i64 n4, .int .i64 n5, .string n6] 31)).cell? ⟨bx, 7, none⟩ = some (.string x7) := by rw [cell_of HX.out]; rfl
        have m0 : (we.alloc (.cells #[.int .i64 n0, .int .u32 n1, .int .u32 n2, .int .u32 n3, .int .i64 n4, .int .i64 n5, .string n6] 31)).cell? ⟨bn, 0, none⟩ = some (.int .i64 x1) := by rw [cell_of HN.out]; rfl
        have m1 : (we.alloc (.cells #[.int .i64 n0, .int .u32 n1, .int .u32 n2, .int .u32 n3, .int .i64 n4, .int .i64 n5, .string n6] 31)).cell? ⟨bn, 1, none⟩ = some (.int .u32 x2) := by rw [cell_of HN.out]; rfl
        have m2 : (we.alloc (.cells #[.int .i64 n0, .int .u32 n1, .int .u32 n2, .int .u32 n3, .int .i64 n4, .int .i64 n5, .string n6] 31)).cell? ⟨bn, 2, none⟩ = some (.int .u32 x3) := by rw [cell_of HN.out]; rfl
        have m3 : (we.alloc (.cells #[.int .i64 n0, .int .u32 n1, .int .u32 n2, .int .u32 n3, .int .i64 n4, .int .i64 n5, .string n6] 31)).cell? ⟨bn, 3, none⟩ = some (.int .u32 x4) := by rw [cell_of HN.out]; rfl
        have m4 : (we.alloc (.cells #[.int .i64 n0, .int .u32 n1, .int .u32 n2, .int .u32 n3, .int .i64 n4, .int .i64 n5, .string n6] 31)).cell? ⟨bn, 4, none⟩ = some (.int .i64 x5) := by rw [cell_of HN.out]; rfl
        have m5 : (we.alloc (.cells #[.int .i64 n0, .int .u32 n1, .int .u32 n2, .int .u32 n3, .int .i64 n4, .int .i64 n5, .string n6] 31)).cell? ⟨bn, 5, none⟩ = some (.int .i64 x6) := by rw [cell_of HN.out]; rfl
        have m6 : (we.alloc (.cells #[.int .i64 n0, .int .u32 n1, .int .u32 n2, .int .u32 n3, .int .i64 n4, .int .i64 n5, .string n6] 31)).cell? ⟨bn, 6, none⟩ = some (.string x7) := by rw [cell_of HN.out]; rfl
        simp only [aggN]
        go_wp2
        go_roundw
        case rel => exact ⟨k + 1, by omega, by go_num, HW6⟩
        case measure => simp [intOf]; omega
      · rw [hfu] at HF3
        refine HF3.out.mono ?_
        rintro e wb ⟨rfl, hb⟩
        have HX := Lib.hid ((hb.block _ (Array.getElem?_eq_some_iff.1 HX.out).1).trans HX.out)
        have HW3 := Lib.hid (below_next HW2.out hb)
        clear hb HF3 HW2
        have hb := below_one wb (.cells #[.int .i64 0, .int .u32 0, .int .u32 0, .int .u32 0, .int .i64 0, .int .i64 0, .string ByteArray.empty] 31)
        have HX := Lib.hid ((hb.block _ (Array.getElem?_eq_some_iff.1 HX.out).1).trans HX.out)
        have HW4 := Lib.hid (below_next HW3.out hb)
        clear hb
        have HF4 := Lib.hid (rfind_any t A c x0 _ (Kd.C_below HT.out HW4.out))
        rw [hft] at HF4
        have c0 : (wb.alloc (.cells #[.int .i64 0, .int .u32 0, .int .u32 0, .int .u32 0, .int .i64 0, .int .i64 0, .string ByteArray.empty] 31)).cell? ⟨bx, 0, none⟩ = some (.string x0) := by rw [cell_of HX.out]; rfl
        simp only [aggN, nodeOf, Option.isSome, z7]
        go_wp2_with fail
        clear c0
        generalize wb.alloc (.cells #[.int .i64 0, .int .u32 0, .int .u32 0, .int .u32 0, .int .i64 0, .int .i64 0, .string ByteArray.empty] 31) = wc at *
        refine HF4.out.mono ?_
        rintro e we ⟨rfl, hb⟩
        have HX := Lib.hid ((hb.block _ (Array.getElem?_eq_some_iff.1 HX.out).1).trans HX.out)
        have HW5 := Lib.hid (below_next HW4.out hb)
        clear hb HF4 HW3 HW4
        have hb := below_one we (.cells #[.int .i64 x1, .int .u32 x2, .int .u32 x3, .int .u32 x4, .int .i64 x5, .int .i64 x6, .string x7] 31)
        have HX := Lib.hid ((hb.block _ (Array.getElem?_eq_some_iff.1 HX.out).1).trans HX.out)
        have HN := Lib.hid (heap_new we (.cells #[.int .i64 x1, .int .u32 x2, .int .u32 x3, .int .u32 x4, .int .i64 x5, .int .i64 x6, .string x7] 31))
        have HW6 := Lib.hid (below_next HW5.out hb)
        clear hb HW5
        have c1 : (we.alloc (.cells #[.int .i64 x1, .int .u32 x2, .int .u32 x3, .int .u32 x4, .int .i64 x5, .int .i64 x6, .string x7] 31)).cell? ⟨bx, 1, none⟩ = some (.int .i64 x1) := by rw [cell_of HX.out]; rfl
        have c2 : (we.alloc (.cells #[.int .i64 x1, .int .u32 x2, .int .u32 x3, .int .u32 x4, .int .i64 x5, .int .i64 x6, .string x7] 31)).cell? ⟨bx, 2, none⟩ = some (.int .u32 x2) := by rw [cell_of HX.out]; rfl
        have c3 : (we.alloc (.cells #[.int .i64 x1, .int .u32 x2, .int .u32 x3, .int .u32 x4, .int .i64 x5, .int .i64 x6, .string x7] 31)).cell? ⟨bx, 3, none⟩ = some (.int .u32 x3) := by rw [cell_of HX.out]; rfl
        have c4 : (we.alloc (.cells #[.int .i64 x1, .int .u32 x2, .int .u32 x3, .int .u32 x4, .int .i64 x5, .int .i64 x6, .string x7] 31)).cell? ⟨bx, 4, none⟩ = some (.int .u32 x4) := by rw [cell_of HX.out]; rfl
        have c5 : (we.alloc (.cells #[.int .i64 x1, .int .u32 x2, .int .u32 x3, .int .u32 x4, .int .i64 x5, .int .i64 x6, .string x7] 31)).cell? ⟨bx, 5, none⟩ = some (.int .i64 x5) := by rw [cell_of HX.out]; rfl
        have c6 : (we.alloc (.cells #[.int .i64 x1, .int .u32 x2, .int .u32 x3, .int .u32 x4, .int .i64 x5, .int .i64 x6, .string x7] 31)).cell? ⟨bx, 6, none⟩ = some (.int .i64 x6) := by rw [cell_of HX.out]; rfl
        have c7 : (we.alloc (.cells #[.int .i64 x1, .int .u32 x2, .int .u32 x3, .int .u32 x4, .int .i64 x5, .int .i64 x6, .string x7] 31)).cell? ⟨bx, 7, none⟩ = some (.string x7) := by rw [cell_of HX.out]; rfl
        have m0 : (we.alloc (.cells #[.int .i64 x1, .int .u32 x2, .int .u32 x3, .int .u32 x4, .int .i64 x5, .int .i64 x6, .string x7] 31)).cell? ⟨we.heap.size, 0, none⟩ = some (.int .i64 x1) := by rw [cell_of HN.out]; rfl
        have m1 : (we.alloc (.cells #[.int .i64 x1, .int .u32 x2, .int .u32 x3, .int .u32 x4, .int .i64 x5, .int .i64 x6, .string x7] 31)).cell? ⟨we.heap.size, 1, none⟩ = some (.int .u32 x2) := by rw [cell_of HN.out]; rfl
        have m2 : (we.alloc (.cells #[.int .i64 x1, .int .u32 x2, .int .u32 x3, .int .u32 x4, .int .i64 x5, .int .i64 x6, .string x7] 31)).cell? ⟨we.heap.size, 2, none⟩ = some (.int .u32 x3) := by rw [cell_of HN.out]; rfl
        have m3 : (we.alloc (.cells #[.int .i64 x1, .int .u32 x2, .int .u32 x3, .int .u32 x4, .int .i64 x5, .int .i64 x6, .string x7] 31)).cell? ⟨we.heap.size, 3, none⟩ = some (.int .u32 x4) := by rw [cell_of HN.out]; rfl
        have m4 : (we.alloc (.cells #[.int .i64 x1, .int .u32 x2, .int .u32 x3, .int .u32 x4, .int .i64 x5, .int .i64 x6, .string x7] 31)).cell? ⟨we.heap.size, 4, none⟩ = some (.int .i64 x5) := by rw [cell_of HN.out]; rfl
        have m5 : (we.alloc (.cells #[.int .i64 x1, .int .u32 x2, .int .u32 x3, .int .u32 x4, .int .i64 x5, .int .i64 x6, .string x7] 31)).cell? ⟨we.heap.size, 5, none⟩ = some (.int .i64 x6) := by rw [cell_of HN.out]; rfl
        have m6 : (we.alloc (.cells #[.int .i64 x1, .int .u32 x2, .int .u32 x3, .int .u32 x4, .int .i64 x5, .int .i64 x6, .string x7] 31)).cell? ⟨we.heap.size, 6, none⟩ = some (.string x7) := by rw [cell_of HN.out]; rfl
        simp only [aggN, nodeOf, Option.isSome]
        go_wp2
        go_roundw
        case rel => exact ⟨k + 1, by omega, by go_num, HW6⟩
        case measure => simp [intOf]; omega
    · have HB := Lib.hid (below_next HB.out HW.out)
      have HT := Lib.hid (Kd.C_below HT.out HW.out)
      have HU := Lib.hid (Kd.C_below HU.out HW.out)
      have HC := Lib.hid (Kd.C_below HC.out HW.out)
      have HG := Lib.hid (HG.out.below HW.out)
      have HRN := Lib.hid (Kd.R_nil itemK 33 wr wr.heap.size (fun _ => True))
      have HBR := Lib.hid (Below.refl wr.heap.size wr)
      clear HW HFR
      go_wp2_with ((with_reducible refine gate_builtin (b := .append) (xs := #[.const (.slice none 0 0), .tmp 85]) rfl ?_); at_builtin; refine Kd.R_append_rows itemK (Rr := itemK.K wr) (w0 := wr) wr.heap.size rfl (.const (.slice none 0 0)) (.tmp 85) 22 33 (.agg #[.string ByteArray.empty, .int .i64 0, .int .u32 0, .int .u32 0, .int .u32 0, .int .i64 0, .int .i64 0, .string ByteArray.empty]) 72 rfl Tryz.underlying22 infoItem rfl (by decide) (by decide) (.slice none 0 0) [] t A t.length c (fun _ => True) (fun _ => False) rfl rfl ?aO ?aR ?aK (fun _ hk => hk.elim) ?aF ?aB ?aS ?aL ?_; skip)
      case aO => exact HRN.out
      case aR => exact HT.out
      case aK => exact k_to_m
      case aF => exact (fun _ _ => trivial)
      case aB => exact HBR.out
      case aS => exact HBR.out.size
      case aL => first | omega | (simp; omega)
      intro va wa ho hb5 hg5 hat5
      obtain ⟨A1, c1, hv1⟩ := Kd.R_slice ho
      subst hv1
      have HR1 := Lib.hid ho
      have HBa := Lib.hid hb5
      have HUa := Lib.hid (Kd.C_below HU.out hb5)
      clear ho hb5 hg5 hat5
      go_wp2_with ((with_reducible refine gate_builtin (b := .append) (xs := #[.tmp 86, .tmp 87]) rfl ?_); at_builtin; refine Kd.R_append_rows itemK (Rr := itemK.K wa) (w0 := wr) wr.heap.size rfl (.tmp 86) (.tmp 87) 22 33 (.agg #[.string ByteArray.empty, .int .i64 0, .int .u32 0, .int .u32 0, .int .u32 0, .int .i64 0, .int .i64 0, .string ByteArray.empty]) 72 rfl Tryz.underlying22 infoItem rfl (by decide) (by decide) (.slice A1 t.length c1) t u B u.length d (fun _ => True) (fun _ => False) rfl rfl ?aO ?aR ?aK (fun _ hk => hk.elim) ?aF ?aB ?aS ?aL ?_; skip)
      case aO => exact HR1.out
      case aR => exact HUa.out
      case aK => exact k_to_m
      case aF => exact (fun _ _ => trivial)
      case aB => exact HBa.out
      case aS => exact HBa.out.size
      case aL => first | omega | (simp; omega)
      intro vb wb ho hb5 hg5 hat5
      obtain ⟨A2, c2, hv2, hc2, hC2⟩ := Kd.R_reads ho
      subst hv2
      have hll : (t ++ u).length = t.length + u.length := List.length_append
      have HL2 := Lib.hid hC2
      have HB2 := Lib.hid (below_next HB.out hb5)
      have HT2 := Lib.hid (Kd.C_below HT.out hb5)
      have HU2 := Lib.hid (Kd.C_below HU.out hb5)
      have HC2 := Lib.hid (Kd.C_below HC.out hb5)
      have HG2 := Lib.hid (HG.out.below hb5)
      have hlu := hC2.2.1
      clear ho hb5 hg5 hat5 hC2 HR1 HUa HBa HBR HRN HT HU HC HG HB hll
      generalize t ++ u = tu at *
      go_wp2
      go_loopw [90] (fun v wi => ∃ j : Nat, j ≤ tu.length ∧ v = .int .i64 j ∧ Hid (Below wb.heap.size wb wi)) (fun v _ => tu.length - (intOf v).toNat)
      case atStart => exact ⟨0, by omega, rfl, Lib.hid (Below.refl _ _)⟩
      case round =>
        obtain ⟨j, hj, rfl, HW⟩ := hrel
        by_cases hjt : j < tu.length
        · obtain ⟨ad, rfl, e0, e1, e2, e3, e4, e5, e6, e7⟩ := item_at (Kd.C_below HL2.out HW.out) hjt
          have hjI : (j : Int) < tu.length := by omega
          have hfs := HHS.out _ (List.getElem_mem hjt)
          generalize tu[j] = x at *
          obtain ⟨x0, x1, x2, x3, x4, x5, x6, x7⟩ := x
          simp only at e0 e1 e2 e3 e4 e5 e6 e7 hfs
          have hb := below_one wr (.cells #[.string x0, .int .i64 x1, .int .u32 x2, .int .u32 x3, .int .u32 x4, .int .i64 x5, .int .i64 x6, .string x7] 33)
          have HX := Lib.hid (heap_new wr (.cells #[.string x0, .int .i64 x1, .int .u32 x2, .int .u32 x3, .int .u32 x4, .int .i64 x5, .int .i64 x6, .string x7] 33))
          have HW2 := Lib.hid (below_next HW.out hb)
          have c0 : (wr.alloc (.cells #[.string x0, .int .i64 x1, .int .u32 x2, .int .u32 x3, .int .u32 x4, .int .i64 x5, .int .i64 x6, .string x7] 33)).cell? ⟨wr.heap.size, 0, none⟩ = some (.string x0) := by rw [cell_of HX.out]; rfl
          have HF3 := Lib.hid (rfind_any o Ao co x0 _ (Kd.C_below HC2.out HW2.out))
          rw [hfs] at HF3
          clear hb HW hfs
          go_wp2_with fail
          clear c0 e0 e1 e2 e3 e4 e5 e6 e7
          generalize wr.alloc (.cells #[.string x0, .int .i64 x1, .int .u32 x2, .int .u32 x3, .int .u32 x4, .int .i64 x5, .int .i64 x6, .string x7] 33) = wx at *
          generalize hnn : nodeOf (findP o x0) = nn at *
          clear hnn
          obtain ⟨n0, n1, n2, n3, n4, n5, n6⟩ := nn
          refine HF3.out.mono ?_
          rintro e wy ⟨rfl, hb⟩
          have HW3 := Lib.hid (below_next (below_next HW2.out hb) (below_one wy (.cells #[.int .i64 n0, .int .u32 n1, .int .u32 n2, .int .u32 n3, .int .i64 n4, .int .i64 n5, .string n6] 31)))
          clear hb HF3 HW2
          simp only [aggN]
          go_wp2
          go_roundw
          case rel => exact ⟨j + 1, by omega, by go_num, HW3⟩
          case measure => simp [intOf]; omega
        · have HB := Lib.hid (below_next HB2.out HW.out)
          have HT := Lib.hid (Kd.C_below HT2.out HW.out)
          have HU := Lib.hid (Kd.C_below HU2.out HW.out)
          have HC := Lib.hid (Kd.C_below HC2.out HW.out)
          have HG := Lib.hid (HG2.out.below HW.out)
          clear HW HB2 HT2 HU2 HC2 HG2 HL2 HHS
          have HO1 := Lib.hid (over_any o u Ao co B d wr HG.out HC.out HU.out (by omega) (by omega) (fun x hx => by have := HZO.out x hx; omega) (fun x hx => by have := HZ2.out x hx; omega))
          rw [HAG.out] at HO1
          go_wp2_with fail
          refine HO1.out.mono ?_
          rintro e y1 ⟨v, rfl, hr, hb⟩
          obtain ⟨A3, c3, hv, _, hC3⟩ := Kd.R_reads hr
          subst hv
          have HB := Lib.hid (below_next HB.out hb)
          have HT := Lib.hid (Kd.C_below HT.out hb)
          have HC := Lib.hid (Kd.C_below HC.out hb)
          have HG := Lib.hid (HG.out.below hb)
          have HS := Lib.hid (same_any o o A3 c3 Ao co y1 hC3 HC.out)
          rw [decide_eq_true (rfl : o = o)] at HS
          clear hb hr hC3 HO1
          go_wp2_with fail
          refine HS.out.mono ?_
          rintro e y2 ⟨rfl, hb⟩
          have HB := Lib.hid (below_next HB.out hb)
          have HT := Lib.hid (Kd.C_below HT.out hb)
          have HG := Lib.hid (HG.out.below hb)
          clear hb HS
          have HO2 := Lib.hid (over_any t [] A c none 0 y2 HG.out HT.out (nil_C y2) (by omega) (by simp) (fun x hx => by have := HZ1.out x hx; omega) (fun x hx => by simp at hx))
          rw [HNI.out] at HO2
          go_wp2_with fail
          refine HO2.out.mono ?_
          rintro e y3 ⟨v, rfl, hr, hb⟩
          obtain ⟨A4, c4, hv, _, hC4⟩ := Kd.R_reads hr
          subst hv
          have HB := Lib.hid (below_next HB.out hb)
          have HT := Lib.hid (Kd.C_below HT.out hb)
          have HS := Lib.hid (same_any t t A4 c4 A c y3 hC4 HT.out)
          rw [decide_eq_true (rfl : t = t)] at HS
          clear hb hr hC4 HO2
          go_wp2_with fail
          refine HS.out.mono ?_
          rintro e y4 ⟨rfl, hb⟩
          have HB := Lib.hid (below_next HB.out hb)
          clear hb HS
          go_wp2
          go_ret
          exact ⟨rfl, HB.out⟩
set_option maxRecDepth 100000 in
theorem walk (v0 v1 : Value) (W : World) {H : Type} {enc : TypeId × Value → H} {b0 b1 : Nat} {d0 d1 : DataW H} {p0 p1 : List MemPlace}
    (k0 : Value.okWide Tryz.prog W .any b0 22 v0) (h0 : DataW.Trod enc Tryz.prog W 0 (fun _ => true) true 22 v0 d0 p0)
    (k1 : Value.okWide Tryz.prog W .any b1 22 v1) (h1 : DataW.Trod enc Tryz.prog W 0 (fun _ => true) true 22 v1 d1 p1) (hg : Glob W) :
    Calls Tryz.prog 4 #[v0, v1] W fun e w' => e = .returned (.bool true) ∧ Below W.heap.size W w' := by
  obtain ⟨A, c, l, rfl, hl⟩ := ItemArg.open_items k0 h0
  obtain ⟨B, d, m, rfl, hm⟩ := ItemArg.open_items k1 h1
  exact dover_any l m A c B d W hg hl hm
end Go.Proofs.YtpjjooiamdfmfaaGreatDoor.DenOver
