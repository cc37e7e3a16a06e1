/- plan.Result, and the document's: what is there behind actions. -/
import Derived.Test.YtpjjooiamdfmfaaGreatDoorPlanAct
import Derived.Test.YtpjjooiamdfmfaaGreatDoorNameUse
set_option linter.unusedVariables false
set_option linter.unusedSimpArgs false
namespace Go.Proofs.YtpjjooiamdfmfaaGreatDoor.PlanRes
open Go.RowKit Go.Proofs.YtpjjooiamdfmfaaGreatDoorW.PrintWords Go.Proofs.YtpjjooiamdfmfaaGreatDoorW.PrintLast Go.Proofs.YtpjjooiamdfmfaaGreatDoorW.PrintMore Go.Proofs.YtpjjooiamdfmfaaGreatDoor.Item Go.Proofs.YtpjjooiamdfmfaaGreatDoor.Own Go.Proofs.YtpjjooiamdfmfaaGreatDoor.PlanAct Go.Proofs.YtpjjooiamdfmfaaGreatDoor.NameLaw Go.Proofs.YtpjjooiamdfmfaaGreatDoor.NameWalk

theorem pick_1 (es t : List It) (x1 x2 : Int) : pickP es t (1, x1, x2) = atP es x1 := if_pos rfl
theorem pick_2 (es t : List It) (x1 x2 : Int) : pickP es t (2, x1, x2) = atP t x2 := by unfold pickP; rw [if_neg (by simp), if_pos (.inl rfl)]
theorem pick_4 (es t : List It) (x1 x2 : Int) : pickP es t (4, x1, x2) = atP t x2 := by unfold pickP; rw [if_neg (by simp), if_pos (.inr rfl)]
theorem pick_none (es t : List It) {x0 x1 x2 : Int} (h1 : ¬ x0 = 1) (h2 : ¬ x0 = 2) (h4 : ¬ x0 = 4) : pickP es t (x0, x1, x2) = [] := by unfold pickP; rw [if_neg h1, if_neg (by simp [h2, h4])]
set_option maxHeartbeats 8000000 in
set_option maxRecDepth 100000 in
theorem result_any (es t : List It) (l : List Ac) (A : Option Addr) (c : Nat) (B : Option Addr) (d : Nat) (C : Option Addr) (e : Nat) (W : World) (hl : ActC W A l) (he : ItemC W B es) (ht : ItemC W C t) (hn : l.length ≤ 1000) :
    Calls Tryz.prog 33 #[.slice A l.length c, .slice B es.length d, .slice C t.length e] W fun e w' => ∃ v, e = .returned v ∧ itemK.R 33 w' W.heap.size (fun _ => True) v (resP es t l) ∧ Below W.heap.size W w' := by
  have HL := Lib.hid hl
  have HE := Lib.hid he
  have HT := Lib.hid ht
  have hl1 := hl.2.1
  have hl2 := he.2.1
  have hl3 := ht.2.1
  clear hl he ht
  obtain ⟨R, hR⟩ : ∃ R, R = resP es t l := ⟨_, rfl⟩
  have HR0 : Hid ([] ++ resP es t (l.drop 0) = R) := Lib.hid hR.symm
  rw [← hR]
  clear hR
  go_enter Tryz.func33, Tryz.ntmps33
  go_wp2
  go_loopw [7, 12] (fun v i wr => ∃ (k : Nat) (acc : List It), k ≤ l.length ∧ acc.length ≤ k ∧ i = .int .i64 k ∧ Hid (acc ++ resP es t (l.drop k) = R) ∧ Hid (itemK.R 33 wr W.heap.size (fun _ => True) v acc) ∧ Hid (Below W.heap.size W wr)) (fun _ i _ => l.length - (intOf i).toNat)
  case atStart => exact ⟨0, [], by omega, by simp, rfl, HR0, Lib.hid (Kd.R_nil _ _ _ _ _), Lib.hid (Below.refl _ _)⟩
  case round =>
    clear HR0
    obtain ⟨k, acc, hk, hacc, rfl, HR, HO, HB⟩ := hrel
    obtain ⟨Av, cv, hv⟩ := Kd.R_slice HO.out
    subst hv
    by_cases hlt : k < l.length
    · obtain ⟨ad, rfl, e0, e1, e2⟩ := ac_at (Kd.C_below HL.out HB.out) hlt
      have hltI : (k : Int) < l.length := by omega
      have hr := HR.out
      rw [res_at hlt] at hr
      have HRR := Lib.hid hr
      clear HR hr
      generalize l[k] = x at *
      obtain ⟨x0, x1, x2⟩ := x
      simp only at e0 e1 e2
      have hb := below_one wr (.cells #[.int .i64 x0, .int .i64 x1, .int .i64 x2] 82)
      have HX := Lib.hid (heap_new wr (.cells #[.int .i64 x0, .int .i64 x1, .int .i64 x2] 82))
      have HB1 := Lib.hid (below_next HB.out hb)
      have HO1 := Lib.hid (Kd.R_below HO.out hb)
      have HNE : Hid (∀ k, (Value.slice Av acc.length cv).ownBlock = some k → k < wr.heap.size) := Lib.hid (Kd.R_lt HO.out)
      clear hb HO HB
      have c0 : (wr.alloc (.cells #[.int .i64 x0, .int .i64 x1, .int .i64 x2] 82)).cell? ⟨wr.heap.size, 0, none⟩ = some (.int .i64 x0) := by rw [cell_of HX.out]; rfl
      have c1 : (wr.alloc (.cells #[.int .i64 x0, .int .i64 x1, .int .i64 x2] 82)).cell? ⟨wr.heap.size, 1, none⟩ = some (.int .i64 x1) := by rw [cell_of HX.out]; rfl
      have c2 : (wr.alloc (.cells #[.int .i64 x0, .int .i64 x1, .int .i64 x2] 82)).cell? ⟨wr.heap.size, 2, none⟩ = some (.int .i64 x2) := by rw [cell_of HX.out]; rfl
      by_cases h1 : x0 = 1
      · subst h1
        have HPK : Hid (pickP es t (1, x1, x2) = atP es x1) := Lib.hid (pick_1 es t x1 x2)
        by_cases hp : 0 ≤ x1
        · obtain ⟨j, rfl⟩ : ∃ j : Nat, x1 = j := ⟨x1.toNat, by omega⟩
          by_cases hj : j < es.length
          · have hjI : (j : Int) < (es.length : Int) := by omega
            obtain ⟨ay, hay, f0, f1, f2, f3, f4, f5, f6, f7⟩ := item_at (Kd.C_below HE.out HB1.out) hj
            subst hay
            have HR2 : Hid ((acc ++ [es[j]]) ++ resP es t (l.drop (k + 1)) = R) := Lib.hid (by have := HRR.out; rw [HPK.out, at_in hj] at this; rw [← this]; simp)
            clear HRR HE HT
            generalize es[j] = y at *
            obtain ⟨y0, y1, y2, y3, y4, y5, y6, y7⟩ := y
            simp only at f0 f1 f2 f3 f4 f5 f6 f7
            go_wp2_with ((with_reducible refine gate_builtin (b := .append) (xs := #[.tmp 32, .tmp 38]) rfl ?_); at_builtin; refine Kd.R_append itemK (w0 := W) W.heap.size rfl (.tmp 32) (.tmp 38) 22 33 (.agg #[.string ByteArray.empty, .int .i64 0, .int .u32 0, .int .u32 0, .int .u32 0, .int .i64 0, .int .i64 0, .string ByteArray.empty]) 72 rfl Tryz.underlying22 infoItem rfl (by decide) (by decide) (.slice Av acc.length cv) acc (y0, y1, y2, y3, y4, y5, y6, y7) [.string y0, .int .i64 y1, .int .u32 y2, .int .u32 y3, .int .u32 y4, .int .i64 y5, .int .i64 y6, .string y7] (fun _ => True) (fun _ => False) rfl (by first | rfl | (simp; done) | (simp; rfl)) ?aP (fun _ hk => hk.elim) ?aF ?aO ?aB ?aS ?aL ?_; skip)
            case aP => exact itemK_M _ _ _ (y0, y1, y2, y3, y4, y5, y6, y7)
            case aB => exact HB1.out
            case aF => exact (fun _ _ => trivial)
            case aO => exact HO1.out
            case aS => exact HB1.out.size
            case aL => first | omega | (simp; done) | (simp; omega)
            intro va w5 ho hb5 hg5 hat5
            have HO6 := Lib.hid ho
            have HB6 := Lib.hid hb5
            clear ho hb5 hg5 hat5
            go_wp2
            go_roundw
            case rel => exact ⟨k + 1, acc ++ [(y0, y1, y2, y3, y4, y5, y6, y7)], by omega, by rw [List.length_append, List.length_singleton]; omega, by go_num, HR2, HO6, HB6⟩
            case measure => simp [intOf]; omega
          · have hjI : ¬ (j : Int) < (es.length : Int) := by omega
            have HR2 : Hid (acc ++ resP es t (l.drop (k + 1)) = R) := Lib.hid (by have := HRR.out; rw [HPK.out, at_out hjI, List.nil_append] at this; exact this)
            clear HRR HE HT
            go_wp2
            go_roundw
            case rel => exact ⟨k + 1, acc, by omega, by omega, by go_num, HR2, HO1, HB1⟩
            case measure => simp [intOf]; omega
        · have hp2 : decide (0 ≤ x1) = false := decide_eq_false hp
          have HR2 : Hid (acc ++ resP es t (l.drop (k + 1)) = R) := Lib.hid (by have := HRR.out; rw [HPK.out, at_neg hp, List.nil_append] at this; exact this)
          clear HRR HE HT
          go_wp2
          go_roundw
          case rel => exact ⟨k + 1, acc, by omega, by omega, by go_num, HR2, HO1, HB1⟩
          case measure => simp [intOf]; omega
      · by_cases h2 : x0 = 2
        · subst h2
          have HPK : Hid (pickP es t (2, x1, x2) = atP t x2) := Lib.hid (pick_2 es t x1 x2)
          by_cases hp : 0 ≤ x2
          · obtain ⟨j, rfl⟩ : ∃ j : Nat, x2 = j := ⟨x2.toNat, by omega⟩
            by_cases hj : j < t.length
            · have hjI : (j : Int) < (t.length : Int) := by omega
              obtain ⟨ay, hay, f0, f1, f2, f3, f4, f5, f6, f7⟩ := item_at (Kd.C_below HT.out HB1.out) hj
              subst hay
              have HR2 : Hid ((acc ++ [t[j]]) ++ resP es t (l.drop (k + 1)) = R) := Lib.hid (by have := HRR.out; rw [HPK.out, at_in hj] at this; rw [← this]; simp)
              clear HRR HE HT
              generalize t[j] = y at *
              obtain ⟨y0, y1, y2, y3, y4, y5, y6, y7⟩ := y
              simp only at f0 f1 f2 f3 f4 f5 f6 f7
              go_wp2_with ((with_reducible refine gate_builtin (b := .append) (xs := #[.tmp 61, .tmp 67]) rfl ?_); at_builtin; refine Kd.R_append itemK (w0 := W) W.heap.size rfl (.tmp 61) (.tmp 67) 22 33 (.agg #[.string ByteArray.empty, .int .i64 0, .int .u32 0, .int .u32 0, .int .u32 0, .int .i64 0, .int .i64 0, .string ByteArray.empty]) 72 rfl Tryz.underlying22 infoItem rfl (by decide) (by decide) (.slice Av acc.length cv) acc (y0, y1, y2, y3, y4, y5, y6, y7) [.string y0, .int .i64 y1, .int .u32 y2, .int .u32 y3, .int .u32 y4, .int .i64 y5, .int .i64 y6, .string y7] (fun _ => True) (fun _ => False) rfl (by first | rfl | (simp; done) | (simp; rfl)) ?aP (fun _ hk => hk.elim) ?aF ?aO ?aB ?aS ?aL ?_; skip)
              case aP => exact itemK_M _ _ _ (y0, y1, y2, y3, y4, y5, y6, y7)
              case aB => exact HB1.out
              case aF => exact (fun _ _ => trivial)
              case aO => exact HO1.out
              case aS => exact HB1.out.size
              case aL => first | omega | (simp; done) | (simp; omega)
              intro va w5 ho hb5 hg5 hat5
              have HO6 := Lib.hid ho
              have HB6 := Lib.hid hb5
              clear ho hb5 hg5 hat5
              go_wp2
              go_roundw
              case rel => exact ⟨k + 1, acc ++ [(y0, y1, y2, y3, y4, y5, y6, y7)], by omega, by rw [List.length_append, List.length_singleton]; omega, by go_num, HR2, HO6, HB6⟩
              case measure => simp [intOf]; omega
            · have hjI : ¬ (j : Int) < (t.length : Int) := by omega
              have HR2 : Hid (acc ++ resP es t (l.drop (k + 1)) = R) := Lib.hid (by have := HRR.out; rw [HPK.out, at_out hjI, List.nil_append] at this; exact this)
              clear HRR HE HT
              go_wp2
              go_roundw
              case rel => exact ⟨k + 1, acc, by omega, by omega, by go_num, HR2, HO1, HB1⟩
              case measure => simp [intOf]; omega
          · have hp2 : decide (0 ≤ x2) = false := decide_eq_false hp
            have HR2 : Hid (acc ++ resP es t (l.drop (k + 1)) = R) := Lib.hid (by have := HRR.out; rw [HPK.out, at_neg hp, List.nil_append] at this; exact this)
            clear HRR HE HT
            go_wp2
            go_roundw
            case rel => exact ⟨k + 1, acc, by omega, by omega, by go_num, HR2, HO1, HB1⟩
            case measure => simp [intOf]; omega
        · by_cases h4 : x0 = 4
          · subst h4
            have HPK : Hid (pickP es t (4, x1, x2) = atP t x2) := Lib.hid (pick_4 es t x1 x2)
            by_cases hp : 0 ≤ x2
            · obtain ⟨j, rfl⟩ : ∃ j : Nat, x2 = j := ⟨x2.toNat, by omega⟩
              by_cases hj : j < t.length
              · have hjI : (j : Int) < (t.length : Int) := by omega
                obtain ⟨ay, hay, f0, f1, f2, f3, f4, f5, f6, f7⟩ := item_at (Kd.C_below HT.out HB1.out) hj
                subst hay
                have HR2 : Hid ((acc ++ [t[j]]) ++ resP es t (l.drop (k + 1)) = R) := Lib.hid (by have := HRR.out; rw [HPK.out, at_in hj] at this; rw [← this]; simp)
                clear HRR HE HT
                generalize t[j] = y at *
                obtain ⟨y0, y1, y2, y3, y4, y5, y6, y7⟩ := y
                simp only at f0 f1 f2 f3 f4 f5 f6 f7
                go_wp2_with ((with_reducible refine gate_builtin (b := .append) (xs := #[.tmp 61, .tmp 67]) rfl ?_); at_builtin; refine Kd.R_append itemK (w0 := W) W.heap.size rfl (.tmp 61) (.tmp 67) 22 33 (.agg #[.string ByteArray.empty, .int .i64 0, .int .u32 0, .int .u32 0, .int .u32 0, .int .i64 0, .int .i64 0, .string ByteArray.empty]) 72 rfl Tryz.underlying22 infoItem rfl (by decide) (by decide) (.slice Av acc.length cv) acc (y0, y1, y2, y3, y4, y5, y6, y7) [.string y0, .int .i64 y1, .int .u32 y2, .int .u32 y3, .int .u32 y4, .int .i64 y5, .int .i64 y6, .string y7] (fun _ => True) (fun _ => False) rfl (by first | rfl | (simp; done) | (simp; rfl)) ?aP (fun _ hk => hk.elim) ?aF ?aO ?aB ?aS ?aL ?_; skip)
                case aP => exact itemK_M _ _ _ (y0, y1, y2, y3, y4, y5, y6, y7)
                case aB => exact HB1.out
                case aF => exact (fun _ _ => trivial)
                case aO => exact HO1.out
                case aS => exact HB1.out.size
                case aL => first | omega | (simp; done) | (simp; omega)
                intro va w5 ho hb5 hg5 hat5
                have HO6 := Lib.hid ho
                have HB6 := Lib.hid hb5
                clear ho hb5 hg5 hat5
                go_wp2
                go_roundw
                case rel => exact ⟨k + 1, acc ++ [(y0, y1, y2, y3, y4, y5, y6, y7)], by omega, by rw [List.length_append, List.length_singleton]; omega, by go_num, HR2, HO6, HB6⟩
                case measure => simp [intOf]; omega
              · have hjI : ¬ (j : Int) < (t.length : Int) := by omega
                have HR2 : Hid (acc ++ resP es t (l.drop (k + 1)) = R) := Lib.hid (by have := HRR.out; rw [HPK.out, at_out hjI, List.nil_append] at this; exact this)
                clear HRR HE HT
                go_wp2
                go_roundw
                case rel => exact ⟨k + 1, acc, by omega, by omega, by go_num, HR2, HO1, HB1⟩
                case measure => simp [intOf]; omega
            · have hp2 : decide (0 ≤ x2) = false := decide_eq_false hp
              have HR2 : Hid (acc ++ resP es t (l.drop (k + 1)) = R) := Lib.hid (by have := HRR.out; rw [HPK.out, at_neg hp, List.nil_append] at this; exact this)
              clear HRR HE HT
              go_wp2
              go_roundw
              case rel => exact ⟨k + 1, acc, by omega, by omega, by go_num, HR2, HO1, HB1⟩
              case measure => simp [intOf]; omega
          · have g1 : (x0 == 1) = false := beq_eq_false_iff_ne.2 h1
            have g2 : (x0 == 2) = false := beq_eq_false_iff_ne.2 h2
            have g4 : (x0 == 4) = false := beq_eq_false_iff_ne.2 h4
            have HPK : Hid (pickP es t (x0, x1, x2) = []) := Lib.hid (pick_none es t h1 h2 h4)
            clear h1 h2 h4
            have HR2 : Hid (acc ++ resP es t (l.drop (k + 1)) = R) := Lib.hid (by have := HRR.out; rw [HPK.out, List.nil_append] at this; exact this)
            clear HRR HE HT
            go_wp2
            go_roundw
            case rel => exact ⟨k + 1, acc, by omega, by omega, by go_num, HR2, HO1, HB1⟩
            case measure => simp [intOf]; omega
    · have HS : Hid (acc = R) := Lib.hid (by rw [← HR.out, res_end (by omega), List.append_nil])
      clear HR
      go_wp2
      go_ret
      exact ⟨_, rfl, by rw [← HS.out]; exact HO.out, HB.out⟩
set_option maxHeartbeats 8000000 in
set_option maxRecDepth 100000 in
theorem rresult_any (es t : List It) (l : List Ac) (A : Option Addr) (c : Nat) (B : Option Addr) (d : Nat) (C : Option Addr) (e : Nat) (W : World) (hl : ActC W A l) (he : ItemC W B es) (ht : ItemC W C t) (hn : l.length ≤ 1000) :
    Calls Tryz.prog 34 #[.slice A l.length c, .slice B es.length d, .slice C t.length e] W fun e w' => ∃ v, e = .returned v ∧ itemK.R 33 w' W.heap.size (fun _ => True) v (resP es t l) ∧ Below W.heap.size W w' := by
  have HL := Lib.hid hl
  have HE := Lib.hid he
  have HT := Lib.hid ht
  have hl1 := hl.2.1
  have hl2 := he.2.1
  have hl3 := ht.2.1
  clear hl he ht
  obtain ⟨R, hR⟩ : ∃ R, R = resP es t l := ⟨_, rfl⟩
  have HR0 : Hid ([] ++ resP es t (l.drop 0) = R) := Lib.hid hR.symm
  rw [← hR]
  clear hR
  go_enter Tryz.func34, Tryz.ntmps34
  go_wp2
  go_loopw [7, 12] (fun v i wr => ∃ (k : Nat) (acc : List It), k ≤ l.length ∧ acc.length ≤ k ∧ i = .int .i64 k ∧ Hid (acc ++ resP es t (l.drop k) = R) ∧ Hid (itemK.R 33 wr W.heap.size (fun _ => True) v acc) ∧ Hid (Below W.heap.size W wr)) (fun _ i _ => l.length - (intOf i).toNat)
  case atStart => exact ⟨0, [], by omega, by simp, rfl, HR0, Lib.hid (Kd.R_nil _ _ _ _ _), Lib.hid (Below.refl _ _)⟩
  case round =>
    clear HR0
    obtain ⟨k, acc, hk, hacc, rfl, HR, HO, HB⟩ := hrel
    obtain ⟨Av, cv, hv⟩ := Kd.R_slice HO.out
    subst hv
    by_cases hlt : k < l.length
    · obtain ⟨ad, rfl, e0, e1, e2⟩ := ac_at (Kd.C_below HL.out HB.out) hlt
      have hltI : (k : Int) < l.length := by omega
      have hr := HR.out
      rw [res_at hlt] at hr
      have HRR := Lib.hid hr
      clear HR hr
      generalize l[k] = x at *
      obtain ⟨x0, x1, x2⟩ := x
      simp only at e0 e1 e2
      have hb := below_one wr (.cells #[.int .i64 x0, .int .i64 x1, .int .i64 x2] 83)
      have HX := Lib.hid (heap_new wr (.cells #[.int .i64 x0, .int .i64 x1, .int .i64 x2] 83))
      have HB1 := Lib.hid (below_next HB.out hb)
      have HO1 := Lib.hid (Kd.R_below HO.out hb)
      have HNE : Hid (∀ k, (Value.slice Av acc.length cv).ownBlock = some k → k < wr.heap.size) := Lib.hid (Kd.R_lt HO.out)
      clear hb HO HB
      have c0 : (wr.alloc (.cells #[.int .i64 x0, .int .i64 x1, .int .i64 x2] 83)).cell? ⟨wr.heap.size, 0, none⟩ = some (.int .i64 x0) := by rw [cell_of HX.out]; rfl
      have c1 : (wr.alloc (.cells #[.int .i64 x0, .int .i64 x1, .int .i64 x2] 83)).cell? ⟨wr.heap.size, 1, none⟩ = some (.int .i64 x1) := by rw [cell_of HX.out]; rfl
      have c2 : (wr.alloc (.cells #[.int .i64 x0, .int .i64 x1, .int .i64 x2] 83)).cell? ⟨wr.heap.size, 2, none⟩ = some (.int .i64 x2) := by rw [cell_of HX.out]; rfl
      by_cases h1 : x0 = 1
      · subst h1
        have HPK : Hid (pickP es t (1, x1, x2) = atP es x1) := Lib.hid (pick_1 es t x1 x2)
        by_cases hp : 0 ≤ x1
        · obtain ⟨j, rfl⟩ : ∃ j : Nat, x1 = j := ⟨x1.toNat, by omega⟩
          by_cases hj : j < es.length
          · have hjI : (j : Int) < (es.length : Int) := by omega
            obtain ⟨ay, hay, f0, f1, f2, f3, f4, f5, f6, f7⟩ := item_at (Kd.C_below HE.out HB1.out) hj
            subst hay
            have HR2 : Hid ((acc ++ [es[j]]) ++ resP es t (l.drop (k + 1)) = R) := Lib.hid (by have := HRR.out; rw [HPK.out, at_in hj] at this; rw [← this]; simp)
            clear HRR HE HT
            generalize es[j] = y at *
            obtain ⟨y0, y1, y2, y3, y4, y5, y6, y7⟩ := y
            simp only at f0 f1 f2 f3 f4 f5 f6 f7
            go_wp2_with ((with_reducible refine gate_builtin (b := .append) (xs := #[.tmp 31, .tmp 37]) rfl ?_); at_builtin; refine Kd.R_append itemK (w0 := W) W.heap.size rfl (.tmp 31) (.tmp 37) 22 33 (.agg #[.string ByteArray.empty, .int .i64 0, .int .u32 0, .int .u32 0, .int .u32 0, .int .i64 0, .int .i64 0, .string ByteArray.empty]) 72 rfl Tryz.underlying22 infoItem rfl (by decide) (by decide) (.slice Av acc.length cv) acc (y0, y1, y2, y3, y4, y5, y6, y7) [.string y0, .int .i64 y1, .int .u32 y2, .int .u32 y3, .int .u32 y4, .int .i64 y5, .int .i64 y6, .string y7] (fun _ => True) (fun _ => False) rfl (by first | rfl | (simp; done) | (simp; rfl)) ?aP (fun _ hk => hk.elim) ?aF ?aO ?aB ?aS ?aL ?_; skip)
            case aP => exact itemK_M _ _ _ (y0, y1, y2, y3, y4, y5, y6, y7)
            case aB => exact HB1.out
            case aF => exact (fun _ _ => trivial)
            case aO => exact HO1.out
            case aS => exact HB1.out.size
            case aL => first | omega | (simp; done) | (simp; omega)
            intro va w5 ho hb5 hg5 hat5
            have HO6 := Lib.hid ho
            have HB6 := Lib.hid hb5
            have HX5 := Lib.hid ((hg5.block wr.heap.size (by simp) (fun e => by have := HNE.out _ e.symm; omega)).trans HX.out)
            have k0 : w5.cell? ⟨wr.heap.size, 0, none⟩ = some (.int .i64 1) := by rw [cell_of HX5.out]; rfl
            clear ho hb5 hg5 hat5
            go_wp2
            go_roundw
            case rel => exact ⟨k + 1, acc ++ [(y0, y1, y2, y3, y4, y5, y6, y7)], by omega, by rw [List.length_append, List.length_singleton]; omega, by go_num, HR2, HO6, HB6⟩
            case measure => simp [intOf]; omega
          · have hjI : ¬ (j : Int) < (es.length : Int) := by omega
            have HR2 : Hid (acc ++ resP es t (l.drop (k + 1)) = R) := Lib.hid (by have := HRR.out; rw [HPK.out, at_out hjI, List.nil_append] at this; exact this)
            clear HRR HE HT
            go_wp2
            go_roundw
            case rel => exact ⟨k + 1, acc, by omega, by omega, by go_num, HR2, HO1, HB1⟩
            case measure => simp [intOf]; omega
        · have hp2 : decide (0 ≤ x1) = false := decide_eq_false hp
          have HR2 : Hid (acc ++ resP es t (l.drop (k + 1)) = R) := Lib.hid (by have := HRR.out; rw [HPK.out, at_neg hp, List.nil_append] at this; exact this)
          clear HRR HE HT
          go_wp2
          go_roundw
          case rel => exact ⟨k + 1, acc, by omega, by omega, by go_num, HR2, HO1, HB1⟩
          case measure => simp [intOf]; omega
      · by_cases h2 : x0 = 2
        · subst h2
          have HPK : Hid (pickP es t (2, x1, x2) = atP t x2) := Lib.hid (pick_2 es t x1 x2)
          by_cases hp : 0 ≤ x2
          · obtain ⟨j, rfl⟩ : ∃ j : Nat, x2 = j := ⟨x2.toNat, by omega⟩
            by_cases hj : j < t.length
            · have hjI : (j : Int) < (t.length : Int) := by omega
              obtain ⟨ay, hay, f0, f1, f2, f3, f4, f5, f6, f7⟩ := item_at (Kd.C_below HT.out HB1.out) hj
              subst hay
              have HR2 : Hid ((acc ++ [t[j]]) ++ resP es t (l.drop (k + 1)) = R) := Lib.hid (by have := HRR.out; rw [HPK.out, at_in hj] at this; rw [← this]; simp)
              clear HRR HE HT
              generalize t[j] = y at *
              obtain ⟨y0, y1, y2, y3, y4, y5, y6, y7⟩ := y
              simp only at f0 f1 f2 f3 f4 f5 f6 f7
              go_wp2_with ((with_reducible refine gate_builtin (b := .append) (xs := #[.tmp 59, .tmp 65]) rfl ?_); at_builtin; refine Kd.R_append itemK (w0 := W) W.heap.size rfl (.tmp 59) (.tmp 65) 22 33 (.agg #[.string ByteArray.empty, .int .i64 0, .int .u32 0, .int .u32 0, .int .u32 0, .int .i64 0, .int .i64 0, .string ByteArray.empty]) 72 rfl Tryz.underlying22 infoItem rfl (by decide) (by decide) (.slice Av acc.length cv) acc (y0, y1, y2, y3, y4, y5, y6, y7) [.string y0, .int .i64 y1, .int .u32 y2, .int .u32 y3, .int .u32 y4, .int .i64 y5, .int .i64 y6, .string y7] (fun _ => True) (fun _ => False) rfl (by first | rfl | (simp; done) | (simp; rfl)) ?aP (fun _ hk => hk.elim) ?aF ?aO ?aB ?aS ?aL ?_; skip)
              case aP => exact itemK_M _ _ _ (y0, y1, y2, y3, y4, y5, y6, y7)
              case aB => exact HB1.out
              case aF => exact (fun _ _ => trivial)
              case aO => exact HO1.out
              case aS => exact HB1.out.size
              case aL => first | omega | (simp; done) | (simp; omega)
              intro va w5 ho hb5 hg5 hat5
              have HO6 := Lib.hid ho
              have HB6 := Lib.hid hb5
              clear ho hb5 hg5 hat5
              go_wp2
              go_roundw
              case rel => exact ⟨k + 1, acc ++ [(y0, y1, y2, y3, y4, y5, y6, y7)], by omega, by rw [List.length_append, List.length_singleton]; omega, by go_num, HR2, HO6, HB6⟩
              case measure => simp [intOf]; omega
            · have hjI : ¬ (j : Int) < (t.length : Int) := by omega
              have HR2 : Hid (acc ++ resP es t (l.drop (k + 1)) = R) := Lib.hid (by have := HRR.out; rw [HPK.out, at_out hjI, List.nil_append] at this; exact this)
              clear HRR HE HT
              go_wp2
              go_roundw
              case rel => exact ⟨k + 1, acc, by omega, by omega, by go_num, HR2, HO1, HB1⟩
              case measure => simp [intOf]; omega
          · have hp2 : decide (0 ≤ x2) = false := decide_eq_false hp
            have HR2 : Hid (acc ++ resP es t (l.drop (k + 1)) = R) := Lib.hid (by have := HRR.out; rw [HPK.out, at_neg hp, List.nil_append] at this; exact this)
            clear HRR HE HT
            go_wp2
            go_roundw
            case rel => exact ⟨k + 1, acc, by omega, by omega, by go_num, HR2, HO1, HB1⟩
            case measure => simp [intOf]; omega
        · by_cases h4 : x0 = 4
          · subst h4
            have HPK : Hid (pickP es t (4, x1, x2) = atP t x2) := Lib.hid (pick_4 es t x1 x2)
            by_cases hp : 0 ≤ x2
            · obtain ⟨j, rfl⟩ : ∃ j : Nat, x2 = j := ⟨x2.toNat, by omega⟩
              by_cases hj : j < t.length
              · have hjI : (j : Int) < (t.length : Int) := by omega
                obtain ⟨ay, hay, f0, f1, f2, f3, f4, f5, f6, f7⟩ := item_at (Kd.C_below HT.out HB1.out) hj
                subst hay
                have HR2 : Hid ((acc ++ [t[j]]) ++ resP es t (l.drop (k + 1)) = R) := Lib.hid (by have := HRR.out; rw [HPK.out, at_in hj] at this; rw [← this]; simp)
                clear HRR HE HT
                generalize t[j] = y at *
                obtain ⟨y0, y1, y2, y3, y4, y5, y6, y7⟩ := y
                simp only at f0 f1 f2 f3 f4 f5 f6 f7
                go_wp2_with ((with_reducible refine gate_builtin (b := .append) (xs := #[.tmp 59, .tmp 65]) rfl ?_); at_builtin; refine Kd.R_append itemK (w0 := W) W.heap.size rfl (.tmp 59) (.tmp 65) 22 33 (.agg #[.string ByteArray.empty, .int .i64 0, .int .u32 0, .int .u32 0, .int .u32 0, .int .i64 0, .int .i64 0, .string ByteArray.empty]) 72 rfl Tryz.underlying22 infoItem rfl (by decide) (by decide) (.slice Av acc.length cv) acc (y0, y1, y2, y3, y4, y5, y6, y7) [.string y0, .int .i64 y1, .int .u32 y2, .int .u32 y3, .int .u32 y4, .int .i64 y5, .int .i64 y6, .string y7] (fun _ => True) (fun _ => False) rfl (by first | rfl | (simp; done) | (simp; rfl)) ?aP (fun _ hk => hk.elim) ?aF ?aO ?aB ?aS ?aL ?_; skip)
                case aP => exact itemK_M _ _ _ (y0, y1, y2, y3, y4, y5, y6, y7)
                case aB => exact HB1.out
                case aF => exact (fun _ _ => trivial)
                case aO => exact HO1.out
                case aS => exact HB1.out.size
                case aL => first | omega | (simp; done) | (simp; omega)
                intro va w5 ho hb5 hg5 hat5
                have HO6 := Lib.hid ho
                have HB6 := Lib.hid hb5
                clear ho hb5 hg5 hat5
                go_wp2
                go_roundw
                case rel => exact ⟨k + 1, acc ++ [(y0, y1, y2, y3, y4, y5, y6, y7)], by omega, by rw [List.length_append, List.length_singleton]; omega, by go_num, HR2, HO6, HB6⟩
                case measure => simp [intOf]; omega
              · have hjI : ¬ (j : Int) < (t.length : Int) := by omega
                have HR2 : Hid (acc ++ resP es t (l.drop (k + 1)) = R) := Lib.hid (by have := HRR.out; rw [HPK.out, at_out hjI, List.nil_append] at this; exact this)
                clear HRR HE HT
                go_wp2
                go_roundw
                case rel => exact ⟨k + 1, acc, by omega, by omega, by go_num, HR2, HO1, HB1⟩
                case measure => simp [intOf]; omega
            · have hp2 : decide (0 ≤ x2) = false := decide_eq_false hp
              have HR2 : Hid (acc ++ resP es t (l.drop (k + 1)) = R) := Lib.hid (by have := HRR.out; rw [HPK.out, at_neg hp, List.nil_append] at this; exact this)
              clear HRR HE HT
              go_wp2
              go_roundw
              case rel => exact ⟨k + 1, acc, by omega, by omega, by go_num, HR2, HO1, HB1⟩
              case measure => simp [intOf]; omega
          · have g1 : (x0 == 1) = false := beq_eq_false_iff_ne.2 h1
            have g2 : (x0 == 2) = false := beq_eq_false_iff_ne.2 h2
            have g4 : (x0 == 4) = false := beq_eq_false_iff_ne.2 h4
            have HPK : Hid (pickP es t (x0, x1, x2) = []) := Lib.hid (pick_none es t h1 h2 h4)
            clear h1 h2 h4
            have HR2 : Hid (acc ++ resP es t (l.drop (k + 1)) = R) := Lib.hid (by have := HRR.out; rw [HPK.out, List.nil_append] at this; exact this)
            clear HRR HE HT
            go_wp2
            go_roundw
            case rel => exact ⟨k + 1, acc, by omega, by omega, by go_num, HR2, HO1, HB1⟩
            case measure => simp [intOf]; omega
    · have HS : Hid (acc = R) := Lib.hid (by rw [← HR.out, res_end (by omega), List.append_nil])
      clear HR
      go_wp2
      go_ret
      exact ⟨_, rfl, by rw [← HS.out]; exact HO.out, HB.out⟩
end Go.Proofs.YtpjjooiamdfmfaaGreatDoor.PlanRes
