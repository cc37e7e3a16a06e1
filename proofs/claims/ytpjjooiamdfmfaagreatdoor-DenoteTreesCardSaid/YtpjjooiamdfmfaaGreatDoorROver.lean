/- The document's Override. -/
import Derived.Test.YtpjjooiamdfmfaaGreatDoorOver
import Derived.Test.YtpjjooiamdfmfaaGreatDoorOdds
import Derived.Test.YtpjjooiamdfmfaaGreatDoorRSort
set_option linter.unusedVariables false
set_option linter.unusedSimpArgs false
namespace Go.Proofs.YtpjjooiamdfmfaaGreatDoor.ROver
open Go.RowKit Go.Proofs.YtpjjooiamdfmfaaGreatDoorW.PrintWords Go.Proofs.YtpjjooiamdfmfaaGreatDoorW.PrintLast Go.Proofs.YtpjjooiamdfmfaaGreatDoorW.PrintMore Go.Proofs.YtpjjooiamdfmfaaGreatDoor.Item Go.Proofs.YtpjjooiamdfmfaaGreatDoor.Own Go.Proofs.YtpjjooiamdfmfaaGreatDoor.TreeLaw Go.Proofs.YtpjjooiamdfmfaaGreatDoor.NameLaw Go.Proofs.YtpjjooiamdfmfaaGreatDoor.NameWalk Go.Proofs.YtpjjooiamdfmfaaGreatDoor.NameOrd Go.Proofs.YtpjjooiamdfmfaaGreatDoor.NameRef Go.Proofs.YtpjjooiamdfmfaaGreatDoor.NameUse Go.Proofs.YtpjjooiamdfmfaaGreatDoor.SortIns Go.Proofs.YtpjjooiamdfmfaaGreatDoor.OverLaw Go.Proofs.YtpjjooiamdfmfaaGreatDoor.Odds Go.Proofs.YtpjjooiamdfmfaaGreatDoor.Over Go.Proofs.YtpjjooiamdfmfaaGreatDoor.RSort

theorem any_take {u : List It} {j : Nat} (h : j < u.length) (p : It → Bool) : (u.take (j + 1)).any p = ((u.take j).any p || p u[j]) := by
  rw [List.take_succ_eq_append_getElem h, List.any_append, List.any_cons, List.any_nil, Bool.or_false]
set_option maxHeartbeats 8000000 in
set_option maxRecDepth 100000 in
theorem rover_any (t u : List It) (A : Option Addr) (c : Nat) (B : Option Addr) (d : Nat) (W : World) (ht : ItemC W A t) (hu : ItemC W B u) (hn : t.length ≤ 500) (hm : u.length ≤ 500) (hs : ∀ x ∈ t, x.1.size ≤ 3000) (hs2 : ∀ x ∈ u, x.1.size ≤ 3000) :
    Calls Tryz.prog 13 #[.slice A t.length c, .slice B u.length d] W fun e w' => ∃ v, e = .returned v ∧ itemK.R 33 w' W.heap.size (fun _ => True) v (overP t u) ∧ Below W.heap.size W w' := by
  have HT := Lib.hid ht
  have HU := Lib.hid hu
  have HS := Lib.hid hs
  have HS2 := Lib.hid hs2
  have hl1 := ht.2.1
  have hl2 := hu.2.1
  clear ht hu hs hs2
  have HE : Hid (overP t u = sortP (restP t u ++ u)) := Lib.hid rfl
  have HRT : Hid (∀ x ∈ restP t u, x.1.size ≤ 3000) := Lib.hid (fun x hx => HS.out x (List.mem_filter.1 hx).1)
  obtain ⟨R, hR⟩ : ∃ R, R = restP t u := ⟨_, rfl⟩
  have HR0 : Hid ([] ++ (t.drop 0).filter (fun x => !inP u x) = R) := Lib.hid hR.symm
  have HRL : Hid (R.length ≤ t.length) := Lib.hid (by rw [hR]; exact List.length_filter_le _ _)
  rw [← hR] at HE HRT
  clear hR
  go_enter Tryz.func13, Tryz.ntmps13
  go_wp2
  go_loopw [5, 13] (fun v i wr => ∃ (k : Nat) (acc : List It), k ≤ t.length ∧ acc.length ≤ k ∧ i = .int .i64 k ∧ Hid (acc ++ (t.drop k).filter (fun x => !inP u x) = R) ∧ Hid (itemK.R 33 wr W.heap.size (fun _ => True) v acc) ∧ Hid (Below W.heap.size W wr)) (fun _ i _ => t.length - (intOf i).toNat)
  case atStart => exact ⟨0, [], by omega, by simp, rfl, HR0, Lib.hid (Kd.R_nil _ _ _ _ _), Lib.hid (Below.refl _ _)⟩
  case round =>
    clear HR0
    obtain ⟨k, acc, hk, hacc, rfl, HR, HO, HB⟩ := hrel
    by_cases hlt : k < t.length
    · obtain ⟨ad, rfl, e0, e1, e2, e3, e4, e5, e6, e7⟩ := item_at (Kd.C_below HT.out HB.out) hlt
      have hltI : (k : Int) < t.length := by omega
      have hr := HR.out
      rw [List.drop_eq_getElem_cons hlt, List.filter_cons] at hr
      clear HR
      generalize t[k] = x at *
      obtain ⟨x0, x1, x2, x3, x4, x5, x6, x7⟩ := x
      simp only at e0 e1 e2 e3 e4 e5 e6 e7
      have hb := below_one wr (.cells #[.string x0, .int .i64 x1, .int .u32 x2, .int .u32 x3, .int .u32 x4, .int .i64 x5, .int .i64 x6, .string x7] 33)
      have HX := Lib.hid (heap_new wr (.cells #[.string x0, .int .i64 x1, .int .u32 x2, .int .u32 x3, .int .u32 x4, .int .i64 x5, .int .i64 x6, .string x7] 33))
      have HB1 := Lib.hid (below_next HB.out hb)
      have HO1 := Lib.hid (Kd.R_below HO.out hb)
      have HRR := Lib.hid hr
      clear hb hr HO HB
      go_wp2
      generalize wr.alloc (.cells #[.string x0, .int .i64 x1, .int .u32 x2, .int .u32 x3, .int .u32 x4, .int .i64 x5, .int .i64 x6, .string x7] 33) = w1 at *
      generalize wr.heap.size = bx at *
      clear e0 e1 e2 e3 e4 e5 e6 e7
      have HA0 : Hid (false = (u.take 0).any (fun y => decide (x0 = y.1))) := Lib.hid rfl
      go_loopw [8, 19] (fun vd i wi => ∃ (j : Nat) (b : Bool), j ≤ u.length ∧ i = .int .i64 j ∧ vd = .bool b ∧ Hid (b = (u.take j).any (fun y => decide (x0 = y.1))) ∧ Hid (Below w1.heap.size w1 wi)) (fun _ i _ => u.length - (intOf i).toNat)
      case atStart => exact ⟨0, false, by omega, rfl, rfl, HA0, Lib.hid (Below.refl _ _)⟩
      case round =>
        clear HA0
        obtain ⟨j, b, hj, rfl, rfl, HA, HW⟩ := hrel
        by_cases hj2 : j < u.length
        · obtain ⟨ay, rfl, f0, f1, f2, f3, f4, f5, f6, f7⟩ := item_at (Kd.C_below HU.out (below_next HB1.out HW.out)) hj2
          have hjI : (j : Int) < u.length := by omega
          have hat := any_take hj2 (fun y => decide (x0 = y.1))
          rw [← HA.out] at hat
          clear HA
          generalize u[j] = y at *
          obtain ⟨y0, y1, y2, y3, y4, y5, y6, y7⟩ := y
          simp only at f0 f1 f2 f3 f4 f5 f6 f7 hat
          have hb := below_one wr (.cells #[.string y0, .int .i64 y1, .int .u32 y2, .int .u32 y3, .int .u32 y4, .int .i64 y5, .int .i64 y6, .string y7] 33)
          have HW2 := Lib.hid (below_next HW.out hb)
          have c0 : (wr.alloc (.cells #[.string y0, .int .i64 y1, .int .u32 y2, .int .u32 y3, .int .u32 y4, .int .i64 y5, .int .i64 y6, .string y7] 33)).cell? ⟨bx, 0, none⟩ = some (.string x0) := by
            rw [cell_of ((hb.block _ (Nat.lt_of_lt_of_le (Array.getElem?_eq_some_iff.1 HX.out).1 HW.out.size)).trans ((HW.out.block _ (Array.getElem?_eq_some_iff.1 HX.out).1).trans HX.out))]; rfl
          have d0 : (wr.alloc (.cells #[.string y0, .int .i64 y1, .int .u32 y2, .int .u32 y3, .int .u32 y4, .int .i64 y5, .int .i64 y6, .string y7] 33)).cell? ⟨wr.heap.size, 0, none⟩ = some (.string y0) := by rw [cell_of (heap_new wr _)]; rfl
          cases b with
          | true =>
            have HA2 : Hid (true = (u.take (j + 1)).any (fun y => decide (x0 = y.1))) := Lib.hid (by rw [hat]; rfl)
            clear hat hb HW
            go_wp2
            go_roundw
            case rel => exact ⟨j + 1, true, by omega, by go_num, rfl, HA2, HW2⟩
            case measure => simp [intOf]; omega
          | false =>
            have HA2 : Hid ((x0.toList == y0.toList) = (u.take (j + 1)).any (fun y => decide (x0 = y.1))) := Lib.hid (by rw [hat, toList_inj]; rfl)
            clear hat hb HW
            go_wp2
            go_roundw
            case rel => exact ⟨j + 1, (x0.toList == y0.toList), by omega, by go_num, rfl, HA2, HW2⟩
            case measure => simp [intOf]; omega
        · have HA2 : Hid (b = inP u (x0, x1, x2, x3, x4, x5, x6, x7)) := Lib.hid (by rw [HA.out, List.take_of_length_le (by omega)]; rfl)
          have HX2 := Lib.hid ((HW.out.block _ (Array.getElem?_eq_some_iff.1 HX.out).1).trans HX.out)
          have HB5 := Lib.hid (below_next HB1.out HW.out)
          have HO5 := Lib.hid (Kd.R_below HO1.out HW.out)
          clear HA
          cases b with
          | true =>
            have HR2 : Hid (acc ++ (t.drop (k + 1)).filter (fun x => !inP u x) = R) := Lib.hid (by
              have h := HRR.out
              rw [← HA2.out, if_neg (by simp)] at h
              exact h)
            clear HA2 HRR
            go_wp2
            go_roundw
            case rel => exact ⟨k + 1, acc, by omega, by omega, by go_num, HR2, HO5, HB5⟩
            case measure => simp [intOf]; omega
          | false =>
            have HR2 : Hid ((acc ++ [(x0, x1, x2, x3, x4, x5, x6, x7)]) ++ (t.drop (k + 1)).filter (fun x => !inP u x) = R) := Lib.hid (by
              have h := HRR.out
              rw [← HA2.out, if_pos (by simp)] at h
              rw [← h]
              simp)
            obtain ⟨Av, cv, hv⟩ := Kd.R_slice HO5.out
            subst hv
            have c0 : wr.cell? ⟨bx, 0, none⟩ = some (.string x0) := by rw [cell_of HX2.out]; rfl
            have c1 : wr.cell? ⟨bx, 1, none⟩ = some (.int .i64 x1) := by rw [cell_of HX2.out]; rfl
            have c2 : wr.cell? ⟨bx, 2, none⟩ = some (.int .u32 x2) := by rw [cell_of HX2.out]; rfl
            have c3 : wr.cell? ⟨bx, 3, none⟩ = some (.int .u32 x3) := by rw [cell_of HX2.out]; rfl
            have c4 : wr.cell? ⟨bx, 4, none⟩ = some (.int .u32 x4) := by rw [cell_of HX2.out]; rfl
            have c5 : wr.cell? ⟨bx, 5, none⟩ = some (.int .i64 x5) := by rw [cell_of HX2.out]; rfl
            have c6 : wr.cell? ⟨bx, 6, none⟩ = some (.int .i64 x6) := by rw [cell_of HX2.out]; rfl
            have c7 : wr.cell? ⟨bx, 7, none⟩ = some (.string x7) := by rw [cell_of HX2.out]; rfl
            clear HA2 HRR
            go_wp2_with ((with_reducible refine gate_builtin (b := .append) (xs := #[.tmp 34, .tmp 36]) rfl ?_); at_builtin; refine Kd.R_append itemK (w0 := W) W.heap.size rfl (.tmp 34) (.tmp 36) 22 33 (.agg #[.string ByteArray.empty, .int .i64 0, .int .u32 0, .int .u32 0, .int .u32 0, .int .i64 0, .int .i64 0, .string ByteArray.empty]) 72 rfl Tryz.underlying22 infoItem rfl (by decide) (by decide) (.slice Av acc.length cv) acc (x0, x1, x2, x3, x4, x5, x6, x7) [.string x0, .int .i64 x1, .int .u32 x2, .int .u32 x3, .int .u32 x4, .int .i64 x5, .int .i64 x6, .string x7] (fun _ => True) (fun _ => False) rfl (by first | rfl | (simp; done) | (simp; rfl)) ?aP (fun _ hk => hk.elim) ?aF ?aO ?aB ?aS ?aL ?_; skip)
            case aP => exact itemK_M _ _ _ (x0, x1, x2, x3, x4, x5, x6, x7)
            case aB => exact HB5.out
            case aF => exact (fun _ _ => trivial)
            case aO => exact HO5.out
            case aS => exact HB5.out.size
            case aL => first | omega | (simp; omega)
            intro va w5 ho hb5 hg5 hat5
            have HO6 := Lib.hid ho
            have HB6 := Lib.hid hb5
            clear ho hb5 hg5 hat5
            go_wp2
            go_roundw
            case rel => exact ⟨k + 1, acc ++ [(x0, x1, x2, x3, x4, x5, x6, x7)], by omega, by rw [List.length_append, List.length_singleton]; omega, by go_num, HR2, HO6, HB6⟩
            case measure => simp [intOf]; omega
    · have hS : acc = R := by rw [← HR.out, List.drop_of_length_le (by omega)]; simp
      subst hS
      obtain ⟨Av, cv, hv⟩ := Kd.R_slice HO.out
      subst hv
      have HU3 := Lib.hid (Kd.C_below HU.out HB.out)
      clear HR
      go_wp2_with ((with_reducible refine gate_builtin (b := .append) (xs := #[.tmp 39, .tmp 40]) rfl ?_); at_builtin; refine Kd.R_append_rows itemK (Rr := itemK.K wr) (w0 := W) W.heap.size rfl (.tmp 39) (.tmp 40) 22 33 (.agg #[.string ByteArray.empty, .int .i64 0, .int .u32 0, .int .u32 0, .int .u32 0, .int .i64 0, .int .i64 0, .string ByteArray.empty]) 72 rfl Tryz.underlying22 infoItem rfl (by decide) (by decide) (.slice Av acc.length cv) acc u B u.length d (fun _ => True) (fun _ => False) rfl rfl ?aO ?aR ?aK (fun _ hk => hk.elim) ?aF ?aB ?aS ?aL ?_; skip)
      case aO => exact HO.out
      case aR => exact HU3.out
      case aK => exact k_to_m
      case aF => exact (fun _ _ => trivial)
      case aB => exact HB.out
      case aS => exact HB.out.size
      case aL => omega
      intro va w5 ho hb5 hg5 hat5
      obtain ⟨A5, c5, hv5, hc5, hC5⟩ := Kd.R_reads ho
      subst hv5
      have HB5 := Lib.hid hb5
      have HSO := Lib.hid (rsort_any (acc ++ u) A5 c5 w5 hC5 (by rw [List.length_append]; omega) (fun x hx => by
        rcases List.mem_append.1 hx with e | e
        · exact HRT.out x e
        · exact HS2.out x e))
      rw [List.length_append] at HSO
      clear ho hb5 hg5 hat5 hC5
      go_wp2_with fail
      refine HSO.out.mono ?_
      rintro e w6 ⟨v6, rfl, hr6, hb6⟩
      have HR6 := Lib.hid (Kd.R_lower hr6 HB5.out.size)
      have HB6 := Lib.hid (below_next HB5.out hb6)
      clear hr6 hb6 HSO
      go_wp2
      go_ret
      exact ⟨_, rfl, by rw [HE.out]; exact HR6.out, HB6.out⟩
end Go.Proofs.YtpjjooiamdfmfaaGreatDoor.ROver
