/- The document's Sort: each item behind all that do not stand behind it. -/
import Derived.Test.YtpjjooiamdfmfaaGreatDoorTreeLaw
import Derived.Test.YtpjjooiamdfmfaaGreatDoorNameUse
import Derived.Test.YtpjjooiamdfmfaaGreatDoorOwn
set_option linter.unusedVariables false
set_option linter.unusedSimpArgs false
namespace Go.Proofs.YtpjjooiamdfmfaaGreatDoor.RSort
open Go.RowKit Go.Proofs.YtpjjooiamdfmfaaGreatDoorW.PrintWords Go.Proofs.YtpjjooiamdfmfaaGreatDoorW.PrintLast Go.Proofs.YtpjjooiamdfmfaaGreatDoorW.PrintMore Go.Proofs.YtpjjooiamdfmfaaGreatDoor.Item Go.Proofs.YtpjjooiamdfmfaaGreatDoor.Own Go.Proofs.YtpjjooiamdfmfaaGreatDoor.TreeLaw Go.Proofs.YtpjjooiamdfmfaaGreatDoor.NameLaw Go.Proofs.YtpjjooiamdfmfaaGreatDoor.NameWalk Go.Proofs.YtpjjooiamdfmfaaGreatDoor.NameOrd Go.Proofs.YtpjjooiamdfmfaaGreatDoor.NameRef Go.Proofs.YtpjjooiamdfmfaaGreatDoor.NameUse

/-- What is still to come of a list into which x is laid: laid already, or not. -/
def contR (d : Bool) (x : It) (r : List It) : List It := if d = true then r else insR x r
theorem ins_nil (x : It) : insR x [] = [x] := rfl
theorem ins_lt {x y : It} {r : List It} (h : orderT x.1 y.1 < 0) : insR x (y :: r) = x :: y :: r := by
  have h1 : ltI x y = true := decide_eq_true h
  unfold insR
  rw [List.takeWhile_cons_of_neg (by simp [h1]), List.dropWhile_cons_of_neg (by simp [h1])]
  rfl
theorem ins_ge {x y : It} {r : List It} (h : ¬ orderT x.1 y.1 < 0) : insR x (y :: r) = y :: insR x r := by
  have h1 : ltI x y = false := decide_eq_false h
  unfold insR
  rw [List.takeWhile_cons_of_pos (by simp [h1]), List.dropWhile_cons_of_pos (by simp [h1])]
  rfl
theorem ins_len (x : It) (o : List It) : (insR x o).length = o.length + 1 := by
  unfold insR
  have h := congrArg List.length (List.takeWhile_append_dropWhile (p := fun y => !ltI x y) (l := o))
  rw [List.length_append] at h
  rw [List.length_append, List.length_cons]
  omega
def foldR (o l : List It) : List It := l.foldl (fun o x => insR x o) o
theorem fold_at {o l : List It} {k : Nat} (h : k < l.length) : foldR o (l.drop k) = foldR (insR l[k] o) (l.drop (k + 1)) := by
  rw [List.drop_eq_getElem_cons h]; rfl
theorem fold_end {o l : List It} {k : Nat} (h : l.length ≤ k) : foldR o (l.drop k) = o := by
  rw [List.drop_of_length_le h]; rfl
set_option maxHeartbeats 8000000 in
set_option maxRecDepth 100000 in
theorem rsort_any (l : List It) (A : Option Addr) (c : Nat) (W : World) (hl : ItemC W A l) (hn : l.length ≤ 1000) (hs : ∀ x ∈ l, x.1.size ≤ 3000) :
    Calls Tryz.prog 28 #[.slice A l.length c] W fun e w' => ∃ v, e = .returned v ∧ itemK.R 33 w' W.heap.size (fun _ => True) v (sortP l) ∧ Below W.heap.size W w' := by
  have HL := Lib.hid hl
  have HSZ := Lib.hid hs
  clear hl hs
  obtain ⟨R, hR⟩ : ∃ R, R = sortP l := ⟨_, rfl⟩
  have HR0 : Hid (foldR [] (l.drop 0) = R) := Lib.hid hR.symm
  rw [← hR]
  clear hR
  go_enter Tryz.func28, Tryz.ntmps28
  go_wp2
  go_loopw [3, 12] (fun v i wr => ∃ (k : Nat) (acc : List It), k ≤ l.length ∧ acc.length ≤ k ∧ i = .int .i64 k ∧ Hid (∀ x ∈ acc, x.1.size ≤ 3000) ∧ Hid (foldR acc (l.drop k) = R) ∧ Hid (itemK.R 33 wr W.heap.size (fun _ => True) v acc) ∧ Hid (Below W.heap.size W wr)) (fun _ i _ => l.length - (intOf i).toNat)
  case atStart => exact ⟨0, [], by omega, by simp, rfl, Lib.hid (by simp), HR0, Lib.hid (Kd.R_nil _ _ _ _ _), Lib.hid (Below.refl _ _)⟩
  case round =>
    clear HR0
    obtain ⟨k, acc, hk, hacc, rfl, HAZ, HR, HO, HB⟩ := hrel
    by_cases hlt : k < l.length
    · obtain ⟨ad, rfl, e0, e1, e2, e3, e4, e5, e6, e7⟩ := item_at (Kd.C_below HL.out HB.out) hlt
      have hltI : (k : Int) < l.length := by omega
      have hr := HR.out
      rw [fold_at hlt] at hr
      have hxz := HSZ.out _ (List.getElem_mem hlt)
      clear HR
      generalize l[k] = x at *
      obtain ⟨x0, x1, x2, x3, x4, x5, x6, x7⟩ := x
      simp only at e0 e1 e2 e3 e4 e5 e6 e7 hr hxz
      obtain ⟨Ao, co, rfl, hco, hC⟩ := Kd.R_reads HO.out
      have hb := below_one wr (.cells #[.string x0, .int .i64 x1, .int .u32 x2, .int .u32 x3, .int .u32 x4, .int .i64 x5, .int .i64 x6, .string x7] 33)
      have HX := Lib.hid (heap_new wr (.cells #[.string x0, .int .i64 x1, .int .u32 x2, .int .u32 x3, .int .u32 x4, .int .i64 x5, .int .i64 x6, .string x7] 33))
      have HB1 := Lib.hid (below_next HB.out hb)
      have HO1 := Lib.hid (Kd.C_below hC hb)
      have HRR := Lib.hid hr
      clear hb hr hC HO HB
      go_wp2
      generalize wr.alloc (.cells #[.string x0, .int .i64 x1, .int .u32 x2, .int .u32 x3, .int .u32 x4, .int .i64 x5, .int .i64 x6, .string x7] 33) = w1 at *
      generalize wr.heap.size = bx at *
      clear e0 e1 e2 e3 e4 e5 e6 e7
      obtain ⟨S, hS⟩ : ∃ S, S = insR (x0, x1, x2, x3, x4, x5, x6, x7) acc := ⟨_, rfl⟩
      have HSL : Hid (S.length ≤ k + 1) := Lib.hid (by rw [hS, ins_len]; omega)
      have HSM : Hid (∀ y ∈ S, y.1.size ≤ 3000) := Lib.hid (fun y hy => by
        rw [hS] at hy
        unfold insR at hy
        rcases List.mem_append.1 hy with e | e
        · exact HAZ.out y ((List.takeWhile_sublist _).subset e)
        · rcases List.mem_cons.1 e with e | e
          · rw [e]; exact hxz
          · exact HAZ.out y ((List.dropWhile_sublist _).subset e))
      rw [← hS] at HRR
      have HI0 : Hid ([] ++ contR false (x0, x1, x2, x3, x4, x5, x6, x7) (acc.drop 0) = S) := Lib.hid hS.symm
      clear hS
      go_loopw [6, 7, 18] (fun v6 vd i wi => ∃ (j : Nat) (d : Bool) (nx : List It), j ≤ acc.length ∧ nx.length ≤ 2 * j ∧ i = .int .i64 j ∧ vd = .bool d ∧ Hid (nx ++ contR d (x0, x1, x2, x3, x4, x5, x6, x7) (acc.drop j) = S) ∧ Hid (itemK.R 33 wi w1.heap.size (fun _ => True) v6 nx) ∧ Hid (Below w1.heap.size w1 wi)) (fun _ _ i _ => acc.length - (intOf i).toNat)
      case atStart => exact ⟨0, false, [], by omega, by simp, rfl, rfl, HI0, Lib.hid (Kd.R_nil _ _ _ _ _), Lib.hid (Below.refl _ _)⟩
      case round =>
        clear HI0
        obtain ⟨j, d, nx, hj, hnx, rfl, rfl, HI, HN, HW⟩ := hrel
        obtain ⟨Av, cv, hv⟩ := Kd.R_slice HN.out
        subst hv
        by_cases hj2 : j < acc.length
        · obtain ⟨ay, rfl, f0, f1, f2, f3, f4, f5, f6, f7⟩ := item_at (Kd.C_below HO1.out HW.out) hj2
          have hjI : (j : Int) < acc.length := by omega
          have hi := HI.out
          rw [List.drop_eq_getElem_cons hj2] at hi
          have hyz := HAZ.out _ (List.getElem_mem hj2)
          clear HI
          generalize acc[j] = y at *
          obtain ⟨y0, y1, y2, y3, y4, y5, y6, y7⟩ := y
          simp only at f0 f1 f2 f3 f4 f5 f6 f7 hi hyz
          have hb := below_one wr (.cells #[.string y0, .int .i64 y1, .int .u32 y2, .int .u32 y3, .int .u32 y4, .int .i64 y5, .int .i64 y6, .string y7] 33)
          have HY := Lib.hid (heap_new wr (.cells #[.string y0, .int .i64 y1, .int .u32 y2, .int .u32 y3, .int .u32 y4, .int .i64 y5, .int .i64 y6, .string y7] 33))
          have HX2 := Lib.hid ((hb.block _ (Nat.lt_of_lt_of_le (Array.getElem?_eq_some_iff.1 HX.out).1 HW.out.size)).trans ((HW.out.block _ (Array.getElem?_eq_some_iff.1 HX.out).1).trans HX.out))
          have HW2 := Lib.hid (below_next HW.out hb)
          have HN2 := Lib.hid (Kd.R_below HN.out hb)
          have HII := Lib.hid hi
          have HN0 := HN
          have HBX : Hid (bx < wr.heap.size) := Lib.hid (Nat.lt_of_lt_of_le (Array.getElem?_eq_some_iff.1 HX.out).1 HW.out.size)
          clear hb HW HN hi
          have HNE : Hid (∀ k, (Value.slice Av nx.length cv).ownBlock = some k → k < wr.heap.size) := Lib.hid (Kd.R_lt HN0.out)
          cases d with
          | true =>
            have HS1 : Hid ((nx ++ [(y0, y1, y2, y3, y4, y5, y6, y7)]) ++ contR true (x0, x1, x2, x3, x4, x5, x6, x7) (acc.drop (j + 1)) = S) := Lib.hid (by rw [← HII.out]; unfold contR; rw [if_pos rfl, if_pos rfl]; simp)
            have d0 : (wr.alloc (.cells #[.string y0, .int .i64 y1, .int .u32 y2, .int .u32 y3, .int .u32 y4, .int .i64 y5, .int .i64 y6, .string y7] 33)).cell? ⟨wr.heap.size, 0, none⟩ = some (.string y0) := by rw [cell_of HY.out]; rfl
            have d1 : (wr.alloc (.cells #[.string y0, .int .i64 y1, .int .u32 y2, .int .u32 y3, .int .u32 y4, .int .i64 y5, .int .i64 y6, .string y7] 33)).cell? ⟨wr.heap.size, 1, none⟩ = some (.int .i64 y1) := by rw [cell_of HY.out]; rfl
            have d2 : (wr.alloc (.cells #[.string y0, .int .i64 y1, .int .u32 y2, .int .u32 y3, .int .u32 y4, .int .i64 y5, .int .i64 y6, .string y7] 33)).cell? ⟨wr.heap.size, 2, none⟩ = some (.int .u32 y2) := by rw [cell_of HY.out]; rfl
            have d3 : (wr.alloc (.cells #[.string y0, .int .i64 y1, .int .u32 y2, .int .u32 y3, .int .u32 y4, .int .i64 y5, .int .i64 y6, .string y7] 33)).cell? ⟨wr.heap.size, 3, none⟩ = some (.int .u32 y3) := by rw [cell_of HY.out]; rfl
            have d4 : (wr.alloc (.cells #[.string y0, .int .i64 y1, .int .u32 y2, .int .u32 y3, .int .u32 y4, .int .i64 y5, .int .i64 y6, .string y7] 33)).cell? ⟨wr.heap.size, 4, none⟩ = some (.int .u32 y4) := by rw [cell_of HY.out]; rfl
            have d5 : (wr.alloc (.cells #[.string y0, .int .i64 y1, .int .u32 y2, .int .u32 y3, .int .u32 y4, .int .i64 y5, .int .i64 y6, .string y7] 33)).cell? ⟨wr.heap.size, 5, none⟩ = some (.int .i64 y5) := by rw [cell_of HY.out]; rfl
            have d6 : (wr.alloc (.cells #[.string y0, .int .i64 y1, .int .u32 y2, .int .u32 y3, .int .u32 y4, .int .i64 y5, .int .i64 y6, .string y7] 33)).cell? ⟨wr.heap.size, 6, none⟩ = some (.int .i64 y6) := by rw [cell_of HY.out]; rfl
            have d7 : (wr.alloc (.cells #[.string y0, .int .i64 y1, .int .u32 y2, .int .u32 y3, .int .u32 y4, .int .i64 y5, .int .i64 y6, .string y7] 33)).cell? ⟨wr.heap.size, 7, none⟩ = some (.string y7) := by rw [cell_of HY.out]; rfl
            clear HII HX2 HY
            go_wp2_with ((with_reducible refine gate_builtin (b := .append) (xs := #[.tmp 36, .tmp 38]) rfl ?_); at_builtin; refine Kd.R_append itemK (w0 := w1) w1.heap.size rfl (.tmp 36) (.tmp 38) 22 33 (.agg #[.string ByteArray.empty, .int .i64 0, .int .u32 0, .int .u32 0, .int .u32 0, .int .i64 0, .int .i64 0, .string ByteArray.empty]) 72 rfl Tryz.underlying22 infoItem rfl (by decide) (by decide) (.slice Av nx.length cv) nx (y0, y1, y2, y3, y4, y5, y6, y7) [.string y0, .int .i64 y1, .int .u32 y2, .int .u32 y3, .int .u32 y4, .int .i64 y5, .int .i64 y6, .string y7] (fun _ => True) (fun _ => False) rfl (by first | rfl | (simp; done) | (simp; rfl)) ?aP (fun _ hk => hk.elim) ?aF ?aO ?aB ?aS ?aL ?_; skip)
            case aP => exact itemK_M _ _ _ (y0, y1, y2, y3, y4, y5, y6, y7)
            case aB => exact HW2.out
            case aF => exact (fun _ _ => trivial)
            case aO => exact HN2.out
            case aS => exact HW2.out.size
            case aL => first | omega | (simp; omega)
            intro va w5 ho hb5 hg5 hat5
            have HN5 := Lib.hid ho
            have HW5 := Lib.hid hb5
            clear ho hb5 hg5 hat5
            go_wp2
            go_roundw
            case rel => exact ⟨j + 1, true, nx ++ [(y0, y1, y2, y3, y4, y5, y6, y7)], by omega, by rw [List.length_append, List.length_singleton]; omega, by go_num, rfl, HS1, HN5, HW5⟩
            case measure => simp [intOf]; omega
          | false =>
            have c0 : (wr.alloc (.cells #[.string y0, .int .i64 y1, .int .u32 y2, .int .u32 y3, .int .u32 y4, .int .i64 y5, .int .i64 y6, .string y7] 33)).cell? ⟨bx, 0, none⟩ = some (.string x0) := by rw [cell_of HX2.out]; rfl
            have d0 : (wr.alloc (.cells #[.string y0, .int .i64 y1, .int .u32 y2, .int .u32 y3, .int .u32 y4, .int .i64 y5, .int .i64 y6, .string y7] 33)).cell? ⟨wr.heap.size, 0, none⟩ = some (.string y0) := by rw [cell_of HY.out]; rfl
            have hbxl : bx < wr.heap.size := HBX.out
            have hlw : wr.heap.size < (wr.alloc (.cells #[.string y0, .int .i64 y1, .int .u32 y2, .int .u32 y3, .int .u32 y4, .int .i64 y5, .int .i64 y6, .string y7] 33)).heap.size := by simp
            go_wp2_with fail
            generalize wr.alloc (.cells #[.string y0, .int .i64 y1, .int .u32 y2, .int .u32 y3, .int .u32 y4, .int .i64 y5, .int .i64 y6, .string y7] 33) = w2 at *
            generalize wr.heap.size = b2 at *
            clear c0 d0
            refine (rorder_next (w := w2) (Lib.hid (Below.refl _ _)) x0 y0 hxz hyz).mono ?_
            rintro e w3 ⟨rfl, hb⟩
            have HX3 := Lib.hid ((hb.out.block _ (Array.getElem?_eq_some_iff.1 HX2.out).1).trans HX2.out)
            have HY3 := Lib.hid ((hb.out.block _ (Array.getElem?_eq_some_iff.1 HY.out).1).trans HY.out)
            have HW3 := Lib.hid (below_next HW2.out hb.out)
            have HN3 := Lib.hid (Kd.R_below HN2.out hb.out)
            have hl3 : b2 < w3.heap.size := Nat.lt_of_lt_of_le hlw hb.out.size
            clear hb HX2 HY HW2 HN2
            by_cases hlo : orderT x0 y0 < 0
            · have HS1 : Hid ((nx ++ [(x0, x1, x2, x3, x4, x5, x6, x7), (y0, y1, y2, y3, y4, y5, y6, y7)]) ++ contR true (x0, x1, x2, x3, x4, x5, x6, x7) (acc.drop (j + 1)) = S) := Lib.hid (by
                rw [← HII.out]
                unfold contR
                rw [if_pos rfl, if_neg (by simp), ins_lt (x := (x0, x1, x2, x3, x4, x5, x6, x7)) (y := (y0, y1, y2, y3, y4, y5, y6, y7)) hlo]
                simp)
              clear HII
              generalize orderT x0 y0 = r at *
              have c0 : w3.cell? ⟨bx, 0, none⟩ = some (.string x0) := by rw [cell_of HX3.out]; rfl
              have c1 : w3.cell? ⟨bx, 1, none⟩ = some (.int .i64 x1) := by rw [cell_of HX3.out]; rfl
              have c2 : w3.cell? ⟨bx, 2, none⟩ = some (.int .u32 x2) := by rw [cell_of HX3.out]; rfl
              have c3 : w3.cell? ⟨bx, 3, none⟩ = some (.int .u32 x3) := by rw [cell_of HX3.out]; rfl
              have c4 : w3.cell? ⟨bx, 4, none⟩ = some (.int .u32 x4) := by rw [cell_of HX3.out]; rfl
              have c5 : w3.cell? ⟨bx, 5, none⟩ = some (.int .i64 x5) := by rw [cell_of HX3.out]; rfl
              have c6 : w3.cell? ⟨bx, 6, none⟩ = some (.int .i64 x6) := by rw [cell_of HX3.out]; rfl
              have c7 : w3.cell? ⟨bx, 7, none⟩ = some (.string x7) := by rw [cell_of HX3.out]; rfl
              go_wp2_with ((with_reducible refine gate_builtin (b := .append) (xs := #[.tmp 32, .tmp 34]) rfl ?_); at_builtin; refine Kd.R_append itemK (w0 := w1) w1.heap.size rfl (.tmp 32) (.tmp 34) 22 33 (.agg #[.string ByteArray.empty, .int .i64 0, .int .u32 0, .int .u32 0, .int .u32 0, .int .i64 0, .int .i64 0, .string ByteArray.empty]) 72 rfl Tryz.underlying22 infoItem rfl (by decide) (by decide) (.slice Av nx.length cv) nx (x0, x1, x2, x3, x4, x5, x6, x7) [.string x0, .int .i64 x1, .int .u32 x2, .int .u32 x3, .int .u32 x4, .int .i64 x5, .int .i64 x6, .string x7] (fun _ => True) (fun _ => False) rfl (by first | rfl | (simp; done) | (simp; rfl)) ?aP (fun _ hk => hk.elim) ?aF ?aO ?aB ?aS ?aL ?_; skip)
              case aP => exact itemK_M _ _ _ (x0, x1, x2, x3, x4, x5, x6, x7)
              case aB => exact HW3.out
              case aF => exact (fun _ _ => trivial)
              case aO => exact HN3.out
              case aS => exact HW3.out.size
              case aL => first | omega | (simp; omega)
              intro va w5 ho hb5 hg5 hat5
              have HN5 := Lib.hid ho
              have HW5 := Lib.hid hb5
              have HY5 := Lib.hid ((hg5.block b2 hl3 (fun e => by have := HNE.out b2 e.symm; omega)).trans HY3.out)
              have d0 : w5.cell? ⟨b2, 0, none⟩ = some (.string y0) := by rw [cell_of HY5.out]; rfl
              have d1 : w5.cell? ⟨b2, 1, none⟩ = some (.int .i64 y1) := by rw [cell_of HY5.out]; rfl
              have d2 : w5.cell? ⟨b2, 2, none⟩ = some (.int .u32 y2) := by rw [cell_of HY5.out]; rfl
              have d3 : w5.cell? ⟨b2, 3, none⟩ = some (.int .u32 y3) := by rw [cell_of HY5.out]; rfl
              have d4 : w5.cell? ⟨b2, 4, none⟩ = some (.int .u32 y4) := by rw [cell_of HY5.out]; rfl
              have d5 : w5.cell? ⟨b2, 5, none⟩ = some (.int .i64 y5) := by rw [cell_of HY5.out]; rfl
              have d6 : w5.cell? ⟨b2, 6, none⟩ = some (.int .i64 y6) := by rw [cell_of HY5.out]; rfl
              have d7 : w5.cell? ⟨b2, 7, none⟩ = some (.string y7) := by rw [cell_of HY5.out]; rfl
              clear ho hb5 hg5 hat5
              go_wp2_with ((with_reducible refine gate_builtin (b := .append) (xs := #[.tmp 36, .tmp 38]) rfl ?_); at_builtin; refine Kd.R_append itemK (w0 := w1) w1.heap.size rfl (.tmp 36) (.tmp 38) 22 33 (.agg #[.string ByteArray.empty, .int .i64 0, .int .u32 0, .int .u32 0, .int .u32 0, .int .i64 0, .int .i64 0, .string ByteArray.empty]) 72 rfl Tryz.underlying22 infoItem rfl (by decide) (by decide) va (nx ++ [(x0, x1, x2, x3, x4, x5, x6, x7)]) (y0, y1, y2, y3, y4, y5, y6, y7) [.string y0, .int .i64 y1, .int .u32 y2, .int .u32 y3, .int .u32 y4, .int .i64 y5, .int .i64 y6, .string y7] (fun _ => True) (fun _ => False) rfl (by first | rfl | (simp; done) | (simp; rfl)) ?aP (fun _ hk => hk.elim) ?aF ?aO ?aB ?aS ?aL ?_; skip)
              case aP => exact itemK_M _ _ _ (y0, y1, y2, y3, y4, y5, y6, y7)
              case aB => exact HW5.out
              case aF => exact (fun _ _ => trivial)
              case aO => exact HN5.out
              case aS => exact HW5.out.size
              case aL => first | omega | (simp; omega)
              intro vb w6 ho hb5 hg5 hat5
              have HN6 := Lib.hid ho
              have HW6 := Lib.hid hb5
              clear ho hb5 hg5 hat5
              go_wp2
              go_roundw
              case rel => exact ⟨j + 1, true, nx ++ [(x0, x1, x2, x3, x4, x5, x6, x7), (y0, y1, y2, y3, y4, y5, y6, y7)], by omega, by simp; omega, by go_num, rfl, HS1, HN6, HW6⟩
              case measure => simp [intOf]; omega
            · have HS1 : Hid ((nx ++ [(y0, y1, y2, y3, y4, y5, y6, y7)]) ++ contR false (x0, x1, x2, x3, x4, x5, x6, x7) (acc.drop (j + 1)) = S) := Lib.hid (by
                rw [← HII.out]
                unfold contR
                rw [if_neg (by simp), if_neg (by simp), ins_ge (x := (x0, x1, x2, x3, x4, x5, x6, x7)) (y := (y0, y1, y2, y3, y4, y5, y6, y7)) hlo]
                simp)
              clear HII
              generalize orderT x0 y0 = r at *
              have d0 : w3.cell? ⟨b2, 0, none⟩ = some (.string y0) := by rw [cell_of HY3.out]; rfl
              have d1 : w3.cell? ⟨b2, 1, none⟩ = some (.int .i64 y1) := by rw [cell_of HY3.out]; rfl
              have d2 : w3.cell? ⟨b2, 2, none⟩ = some (.int .u32 y2) := by rw [cell_of HY3.out]; rfl
              have d3 : w3.cell? ⟨b2, 3, none⟩ = some (.int .u32 y3) := by rw [cell_of HY3.out]; rfl
              have d4 : w3.cell? ⟨b2, 4, none⟩ = some (.int .u32 y4) := by rw [cell_of HY3.out]; rfl
              have d5 : w3.cell? ⟨b2, 5, none⟩ = some (.int .i64 y5) := by rw [cell_of HY3.out]; rfl
              have d6 : w3.cell? ⟨b2, 6, none⟩ = some (.int .i64 y6) := by rw [cell_of HY3.out]; rfl
              have d7 : w3.cell? ⟨b2, 7, none⟩ = some (.string y7) := by rw [cell_of HY3.out]; rfl
              go_wp2_with ((with_reducible refine gate_builtin (b := .append) (xs := #[.tmp 36, .tmp 38]) rfl ?_); at_builtin; refine Kd.R_append itemK (w0 := w1) w1.heap.size rfl (.tmp 36) (.tmp 38) 22 33 (.agg #[.string ByteArray.empty, .int .i64 0, .int .u32 0, .int .u32 0, .int .u32 0, .int .i64 0, .int .i64 0, .string ByteArray.empty]) 72 rfl Tryz.underlying22 infoItem rfl (by decide) (by decide) (.slice Av nx.length cv) nx (y0, y1, y2, y3, y4, y5, y6, y7) [.string y0, .int .i64 y1, .int .u32 y2, .int .u32 y3, .int .u32 y4, .int .i64 y5, .int .i64 y6, .string y7] (fun _ => True) (fun _ => False) rfl (by first | rfl | (simp; done) | (simp; rfl)) ?aP (fun _ hk => hk.elim) ?aF ?aO ?aB ?aS ?aL ?_; skip)
              case aP => exact itemK_M _ _ _ (y0, y1, y2, y3, y4, y5, y6, y7)
              case aB => exact HW3.out
              case aF => exact (fun _ _ => trivial)
              case aO => exact HN3.out
              case aS => exact HW3.out.size
              case aL => first | omega | (simp; omega)
              intro va w5 ho hb5 hg5 hat5
              have HN5 := Lib.hid ho
              have HW5 := Lib.hid hb5
              clear ho hb5 hg5 hat5
              go_wp2
              go_roundw
              case rel => exact ⟨j + 1, false, nx ++ [(y0, y1, y2, y3, y4, y5, y6, y7)], by omega, by rw [List.length_append, List.length_singleton]; omega, by go_num, rfl, HS1, HN5, HW5⟩
              case measure => simp [intOf]; omega
        · have HII : Hid (nx ++ contR d (x0, x1, x2, x3, x4, x5, x6, x7) [] = S) := Lib.hid (by rw [← HI.out, List.drop_of_length_le (by omega)])
          have HX2 := Lib.hid ((HW.out.block _ (Array.getElem?_eq_some_iff.1 HX.out).1).trans HX.out)
          clear HI
          cases d with
          | true =>
            have hS2 : nx = S := by rw [← HII.out]; unfold contR; rw [if_pos rfl, List.append_nil]
            subst hS2
            have HB5 := Lib.hid (below_next HB1.out HW.out)
            have HO5 := Lib.hid (Kd.R_lower HN.out HB1.out.size)
            have hl5 := HSL.out
            clear HII
            go_wp2
            go_roundw
            case rel => exact ⟨k + 1, nx, by omega, by omega, by go_num, HSM, HRR, HO5, HB5⟩
            case measure => simp [intOf]; omega
          | false =>
            have hS2 : nx ++ [(x0, x1, x2, x3, x4, x5, x6, x7)] = S := by rw [← HII.out]; unfold contR; rw [if_neg (by simp), ins_nil]
            subst hS2
            have c0 : wr.cell? ⟨bx, 0, none⟩ = some (.string x0) := by rw [cell_of HX2.out]; rfl
            have c1 : wr.cell? ⟨bx, 1, none⟩ = some (.int .i64 x1) := by rw [cell_of HX2.out]; rfl
            have c2 : wr.cell? ⟨bx, 2, none⟩ = some (.int .u32 x2) := by rw [cell_of HX2.out]; rfl
            have c3 : wr.cell? ⟨bx, 3, none⟩ = some (.int .u32 x3) := by rw [cell_of HX2.out]; rfl
            have c4 : wr.cell? ⟨bx, 4, none⟩ = some (.int .u32 x4) := by rw [cell_of HX2.out]; rfl
            have c5 : wr.cell? ⟨bx, 5, none⟩ = some (.int .i64 x5) := by rw [cell_of HX2.out]; rfl
            have c6 : wr.cell? ⟨bx, 6, none⟩ = some (.int .i64 x6) := by rw [cell_of HX2.out]; rfl
            have c7 : wr.cell? ⟨bx, 7, none⟩ = some (.string x7) := by rw [cell_of HX2.out]; rfl
            clear HII
            go_wp2_with ((with_reducible refine gate_builtin (b := .append) (xs := #[.tmp 43, .tmp 45]) rfl ?_); at_builtin; refine Kd.R_append itemK (w0 := w1) w1.heap.size rfl (.tmp 43) (.tmp 45) 22 33 (.agg #[.string ByteArray.empty, .int .i64 0, .int .u32 0, .int .u32 0, .int .u32 0, .int .i64 0, .int .i64 0, .string ByteArray.empty]) 72 rfl Tryz.underlying22 infoItem rfl (by decide) (by decide) (.slice Av nx.length cv) nx (x0, x1, x2, x3, x4, x5, x6, x7) [.string x0, .int .i64 x1, .int .u32 x2, .int .u32 x3, .int .u32 x4, .int .i64 x5, .int .i64 x6, .string x7] (fun _ => True) (fun _ => False) rfl (by first | rfl | (simp; done) | (simp; rfl)) ?aP (fun _ hk => hk.elim) ?aF ?aO ?aB ?aS ?aL ?_; skip)
            case aP => exact itemK_M _ _ _ (x0, x1, x2, x3, x4, x5, x6, x7)
            case aB => exact HW.out
            case aF => exact (fun _ _ => trivial)
            case aO => exact HN.out
            case aS => exact HW.out.size
            case aL => first | omega | (simp; omega)
            intro va w5 ho hb5 hg5 hat5
            have HN5 := Lib.hid ho
            have HW5 := Lib.hid hb5
            clear ho hb5 hg5 hat5
            have HB5 := Lib.hid (below_next HB1.out HW5.out)
            have HO5 := Lib.hid (Kd.R_lower HN5.out HB1.out.size)
            have hl5 := HSL.out
            go_wp2
            go_roundw
            case rel => exact ⟨k + 1, nx ++ [(x0, x1, x2, x3, x4, x5, x6, x7)], by omega, by omega, by go_num, HSM, HRR, HO5, HB5⟩
            case measure => simp [intOf]; omega
    · have HS := Lib.hid (show acc = R by rw [← HR.out, fold_end (by omega)])
      go_wp2
      go_ret
      exact ⟨_, rfl, by rw [← HS.out]; exact HO.out, HB.out⟩
end Go.Proofs.YtpjjooiamdfmfaaGreatDoor.RSort
