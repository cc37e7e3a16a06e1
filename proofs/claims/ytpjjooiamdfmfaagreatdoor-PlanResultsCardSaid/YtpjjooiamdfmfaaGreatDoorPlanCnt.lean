/- law 24's 'to'; plan.Count, and the document's. -/
import Derived.Test.YtpjjooiamdfmfaaGreatDoorPlanAct
import Derived.Test.YtpjjooiamdfmfaaGreatDoorNameUse
import Derived.Test.YtpjjooiamdfmfaaGreatDoorRaw
import Derived.Test.YtpjjooiamdfmfaaGreatDoorNodeRes
set_option linter.unusedVariables false
set_option linter.unusedSimpArgs false
namespace Go.Proofs.YtpjjooiamdfmfaaGreatDoor.PlanCnt
open Go.RowKit Go.Proofs.YtpjjooiamdfmfaaGreatDoorW.PrintWords Go.Proofs.YtpjjooiamdfmfaaGreatDoorW.PrintLast Go.Proofs.YtpjjooiamdfmfaaGreatDoorW.PrintMore Go.Proofs.YtpjjooiamdfmfaaGreatDoor.Item Go.Proofs.YtpjjooiamdfmfaaGreatDoor.Own Go.Proofs.YtpjjooiamdfmfaaGreatDoor.PlanAct Go.Proofs.YtpjjooiamdfmfaaGreatDoor.NameLaw Go.Proofs.YtpjjooiamdfmfaaGreatDoor.NameWalk Go.Proofs.YtpjjooiamdfmfaaGreatDoor.NameUse

theorem size5 : (Tryz.prog.info? 51).map (·.size) = some 5 := by kernel_rfl
theorem put5 {W : World} {bn : Nat} {a0 a1 a2 a3 a4 : Value} (h : W.heap[bn]? = some (.cells #[a0, a1, a2, a3, a4] 51 (0, 0))) (v0 v1 v2 v3 v4 : Value) :
    ((((((W.setCell ⟨bn, 0, none⟩ v0).setCell ⟨bn, 1, none⟩ v1).setCell ⟨bn, 2, none⟩ v2).setCell ⟨bn, 3, none⟩ v3).setCell ⟨bn, 4, none⟩ v4)).heap[bn]? = some (.cells #[v0, v1, v2, v3, v4] 51 (0, 0)) := by
  have h0 := h
  clear h
  generalize W = W0 at *
  have h1 : (W0.setCell ⟨bn, 0, none⟩ v0).heap[bn]? = some (.cells #[v0, a1, a2, a3, a4] 51 (0, 0)) := blk_put h0 0 v0 rfl
  generalize W0.setCell ⟨bn, 0, none⟩ v0 = W1 at *
  have h2 : (W1.setCell ⟨bn, 1, none⟩ v1).heap[bn]? = some (.cells #[v0, v1, a2, a3, a4] 51 (0, 0)) := blk_put h1 1 v1 rfl
  generalize W1.setCell ⟨bn, 1, none⟩ v1 = W2 at *
  have h3 : (W2.setCell ⟨bn, 2, none⟩ v2).heap[bn]? = some (.cells #[v0, v1, v2, a3, a4] 51 (0, 0)) := blk_put h2 2 v2 rfl
  generalize W2.setCell ⟨bn, 2, none⟩ v2 = W3 at *
  have h4 : (W3.setCell ⟨bn, 3, none⟩ v3).heap[bn]? = some (.cells #[v0, v1, v2, v3, a4] 51 (0, 0)) := blk_put h3 3 v3 rfl
  generalize W3.setCell ⟨bn, 3, none⟩ v3 = W4 at *
  exact blk_put h4 4 v4 rfl
theorem below5 {n : Nat} {W0 W : World} {bn : Nat} (hb : Below n W0 W) (hn : n ≤ W0.heap.size) (hbn : n ≤ bn) (v0 v1 v2 v3 v4 : Value) : Below n W0 ((((((W.setCell ⟨bn, 0, none⟩ v0).setCell ⟨bn, 1, none⟩ v1).setCell ⟨bn, 2, none⟩ v2).setCell ⟨bn, 3, none⟩ v3).setCell ⟨bn, 4, none⟩ v4)) := by
  have hr : ∀ x, some bn = some x → n ≤ x := fun x hx => by injection hx with hx; omega
  exact below_grown (below_grown (below_grown (below_grown (below_grown hb hn (set_grown _ _ _ _) hr) hn (set_grown _ _ _ _) hr) hn (set_grown _ _ _ _) hr) hn (set_grown _ _ _ _) hr) hn (set_grown _ _ _ _) hr
set_option maxHeartbeats 8000000 in
set_option maxRecDepth 100000 in
theorem to_any (l : List Ac) (A : Option Addr) (c : Nat) (W : World) (hl : ActC W A l) (hn : l.length ≤ 1000) :
    Calls Tryz.prog 35 #[.slice A l.length c] W fun e w' => ∃ v, e = .returned v ∧ acK.R 83 w' W.heap.size (fun _ => True) v l ∧ Below W.heap.size W w' := by
  have HL := Lib.hid hl
  have hl1 := hl.2.1
  clear hl
  have HR0 : Hid ([] ++ l.drop 0 = l) := Lib.hid rfl
  go_enter Tryz.func35, Tryz.ntmps35
  go_wp2
  go_loopw [3, 8] (fun v i wr => ∃ (k : Nat) (acc : List Ac), k ≤ l.length ∧ acc.length ≤ k ∧ i = .int .i64 k ∧ Hid (acc ++ l.drop k = l) ∧ Hid (acK.R 83 wr W.heap.size (fun _ => True) v acc) ∧ Hid (Below W.heap.size W wr)) (fun _ i _ => l.length - (intOf i).toNat)
  case atStart => exact ⟨0, [], by omega, by simp, rfl, HR0, Lib.hid (Kd.R_nil _ _ _ _ _), Lib.hid (Below.refl _ _)⟩
  case round =>
    clear HR0
    obtain ⟨k, acc, hk, hacc, rfl, HR, HO, HB⟩ := hrel
    obtain ⟨Av, cv, hv⟩ := Kd.R_slice HO.out
    subst hv
    by_cases hlt : k < l.length
    · obtain ⟨ad, rfl, e0, e1, e2⟩ := ac_at (Kd.C_below HL.out HB.out) hlt
      have hltI : (k : Int) < l.length := by omega
      have HR2 : Hid ((acc ++ [l[k]]) ++ l.drop (k + 1) = l) := Lib.hid (by have := HR.out; rw [List.drop_eq_getElem_cons hlt] at this; rw [List.append_assoc]; exact this)
      clear HR
      generalize l[k] = x at *
      obtain ⟨x0, x1, x2⟩ := x
      simp only at e0 e1 e2
      have hb := below_one wr (.cells #[.int .i64 x0, .int .i64 x1, .int .i64 x2] 82)
      have HX := Lib.hid (heap_new wr (.cells #[.int .i64 x0, .int .i64 x1, .int .i64 x2] 82))
      have HB1 := Lib.hid (below_next HB.out hb)
      have HO1 := Lib.hid (Kd.R_below HO.out hb)
      clear hb HO HB
      have c0 : (wr.alloc (.cells #[.int .i64 x0, .int .i64 x1, .int .i64 x2] 82)).cell? ⟨wr.heap.size, 0, none⟩ = some (.int .i64 x0) := by rw [cell_of HX.out]; rfl
      have c1 : (wr.alloc (.cells #[.int .i64 x0, .int .i64 x1, .int .i64 x2] 82)).cell? ⟨wr.heap.size, 1, none⟩ = some (.int .i64 x1) := by rw [cell_of HX.out]; rfl
      have c2 : (wr.alloc (.cells #[.int .i64 x0, .int .i64 x1, .int .i64 x2] 82)).cell? ⟨wr.heap.size, 2, none⟩ = some (.int .i64 x2) := by rw [cell_of HX.out]; rfl
      go_wp2_with ((with_reducible refine gate_builtin (b := .append) (xs := #[.tmp 12, .tmp 14]) rfl ?_); at_builtin; refine Kd.R_append acK (w0 := W) W.heap.size rfl (.tmp 12) (.tmp 14) 49 83 (.agg #[.int .i64 0, .int .i64 0, .int .i64 0]) 24 rfl Tryz.underlying49 infoRc rfl (by decide) (by decide) (.slice Av acc.length cv) acc (x0, x1, x2) [.int .i64 x0, .int .i64 x1, .int .i64 x2] (fun _ => True) (fun _ => False) rfl (by first | rfl | (simp; done) | (simp; rfl)) ?aP (fun _ hk => hk.elim) ?aF ?aO ?aB ?aS ?aL ?_; skip)
      case aP => exact acK_M _ _ _ (x0, x1, x2)
      case aB => exact HB1.out
      case aF => exact (fun _ _ => trivial)
      case aO => exact HO1.out
      case aS => exact HB1.out.size
      case aL => first | omega | (simp; done) | (simp; omega)
      intro va w5 ho hb5 hg5 hat5
      have HO6 := Lib.hid ho
      have HB6 := Lib.hid hb5
      clear ho hb5 hg5 hat5
      go_wp2
      go_roundw
      case rel => exact ⟨k + 1, acc ++ [(x0, x1, x2)], by omega, by rw [List.length_append, List.length_singleton]; omega, by go_num, HR2, HO6, HB6⟩
      case measure => simp [intOf]; omega
    · have HS : Hid (acc = l) := Lib.hid (by have := HR.out; rw [List.drop_of_length_le (by omega), List.append_nil] at this; exact this)
      clear HR
      go_wp2
      go_ret
      exact ⟨_, rfl, by have := HO.out; rw [HS.out] at this ⊢; exact this, HB.out⟩
set_option maxHeartbeats 8000000 in
set_option maxRecDepth 100000 in
theorem count_any (l : List Ac) (A : Option Addr) (c : Nat) (W : World) (hl : ActC W A l) (hn : l.length ≤ 1000) :
    Calls Tryz.prog 36 #[.slice A l.length c] W fun e w' => e = .returned (.agg #[.int .i64 0, .int .i64 (cntP 1 l : Nat), .int .i64 (cntP 2 l : Nat), .int .i64 (cntP 3 l : Nat), .int .i64 (cntP 4 l : Nat)]) ∧ Below W.heap.size W w' := by
  have hb1 := below_one W (.cells #[.int .i64 0, .int .i64 0, .int .i64 0, .int .i64 0, .int .i64 0] 51)
  have hb2 := below_one (W.alloc (.cells #[.int .i64 0, .int .i64 0, .int .i64 0, .int .i64 0, .int .i64 0] 51)) (.cells #[.int .i64 0, .int .i64 0, .int .i64 0, .int .i64 0, .int .i64 0] 51)
  have HB0 := Lib.hid (below_next hb1 hb2)
  have HL := Lib.hid hl
  have hl1 := hl.2.1
  have hh2 := (hb2.block W.heap.size (by simp)).trans (heap_new W (.cells #[.int .i64 0, .int .i64 0, .int .i64 0, .int .i64 0, .int .i64 0] 51))
  have hh3 := heap_new (W.alloc (.cells #[.int .i64 0, .int .i64 0, .int .i64 0, .int .i64 0, .int .i64 0] 51)) (.cells #[.int .i64 0, .int .i64 0, .int .i64 0, .int .i64 0, .int .i64 0] 51)
  rw [show (W.alloc (.cells #[.int .i64 0, .int .i64 0, .int .i64 0, .int .i64 0, .int .i64 0] 51)).heap.size = W.heap.size + 1 by simp] at hh3
  have H2 := Lib.hid hh2
  have H3 := Lib.hid hh3
  clear hl hb1 hb2 hh2 hh3
  go_enter Tryz.func36, Tryz.ntmps36
  go_wp2
  generalize (W.alloc (.cells #[.int .i64 0, .int .i64 0, .int .i64 0, .int .i64 0, .int .i64 0] 51)).alloc (.cells #[.int .i64 0, .int .i64 0, .int .i64 0, .int .i64 0, .int .i64 0] 51) = U at *
  have HR0 : Hid ((0 : Nat) = cntP 1 (l.take 0) ∧ (0 : Nat) = cntP 2 (l.take 0) ∧ (0 : Nat) = cntP 3 (l.take 0) ∧ (0 : Nat) = cntP 4 (l.take 0)) := Lib.hid ⟨rfl, rfl, rfl, rfl⟩
  go_loopw [8] (fun i wr => ∃ (k n1 n2 n3 n4 : Nat), k ≤ l.length ∧ n1 ≤ k ∧ n2 ≤ k ∧ n3 ≤ k ∧ n4 ≤ k ∧ i = .int .i64 k ∧ Hid (n1 = cntP 1 (l.take k) ∧ n2 = cntP 2 (l.take k) ∧ n3 = cntP 3 (l.take k) ∧ n4 = cntP 4 (l.take k)) ∧ Hid (wr.heap[W.heap.size]? = some (.cells #[.int .i64 0, .int .i64 0, .int .i64 0, .int .i64 0, .int .i64 0] 51 (0, 0))) ∧ Hid (wr.heap[W.heap.size + 1]? = some (.cells #[.int .i64 0, .int .i64 (n1 : Nat), .int .i64 (n2 : Nat), .int .i64 (n3 : Nat), .int .i64 (n4 : Nat)] 51 (0, 0))) ∧ Hid (Below W.heap.size W wr)) (fun i _ => l.length - (intOf i).toNat)
  case atStart => exact ⟨0, 0, 0, 0, 0, by omega, by omega, by omega, by omega, by omega, rfl, HR0, H2, H3, HB0⟩
  case round =>
    clear HR0 H2 H3 HB0
    obtain ⟨k, n1, n2, n3, n4, hk, hk1, hk2, hk3, hk4, rfl, HR, H2, H3, HB⟩ := hrel
    by_cases hlt : k < l.length
    · obtain ⟨ad, rfl, e0, e1, e2⟩ := ac_at (Kd.C_below HL.out HB.out) hlt
      have hltI : (k : Int) < l.length := by omega
      have HN : Hid (cntP 1 (l.take (k + 1)) = n1 + (if l[k].1 = 1 then 1 else 0) ∧ cntP 2 (l.take (k + 1)) = n2 + (if l[k].1 = 2 then 1 else 0) ∧ cntP 3 (l.take (k + 1)) = n3 + (if l[k].1 = 3 then 1 else 0) ∧ cntP 4 (l.take (k + 1)) = n4 + (if l[k].1 = 4 then 1 else 0)) := Lib.hid (by
        obtain ⟨r1, r2, r3, r4⟩ := HR.out
        rw [r1, r2, r3, r4]
        exact ⟨cnt_at hlt, cnt_at hlt, cnt_at hlt, cnt_at hlt⟩)
      clear HR
      generalize l[k] = x at *
      obtain ⟨x0, x1, x2⟩ := x
      simp only at e0 e1 e2
      have hb := below_one wr (.cells #[.int .i64 x0, .int .i64 x1, .int .i64 x2] 82)
      have HX := Lib.hid (heap_new wr (.cells #[.int .i64 x0, .int .i64 x1, .int .i64 x2] 82))
      have HB1 := Lib.hid (below_next HB.out hb)
      have H21 := Lib.hid ((hb.block _ (Array.getElem?_eq_some_iff.1 H2.out).1).trans H2.out)
      have H31 := Lib.hid ((hb.block _ (Array.getElem?_eq_some_iff.1 H3.out).1).trans H3.out)
      clear hb HB H2 H3
      have c0 : (wr.alloc (.cells #[.int .i64 x0, .int .i64 x1, .int .i64 x2] 82)).cell? ⟨wr.heap.size, 0, none⟩ = some (.int .i64 x0) := by rw [cell_of HX.out]; rfl
      by_cases h1 : x0 = 1
      · subst h1
        have d0 : (wr.alloc (.cells #[.int .i64 1, .int .i64 x1, .int .i64 x2] 82)).cell? ⟨W.heap.size + 1, 0, none⟩ = some (.int .i64 (0)) := by rw [cell_of H31.out]; rfl
        have d1 : (wr.alloc (.cells #[.int .i64 1, .int .i64 x1, .int .i64 x2] 82)).cell? ⟨W.heap.size + 1, 1, none⟩ = some (.int .i64 (n1 : Nat)) := by rw [cell_of H31.out]; rfl
        have d2 : (wr.alloc (.cells #[.int .i64 1, .int .i64 x1, .int .i64 x2] 82)).cell? ⟨W.heap.size + 1, 2, none⟩ = some (.int .i64 (n2 : Nat)) := by rw [cell_of H31.out]; rfl
        have d3 : (wr.alloc (.cells #[.int .i64 1, .int .i64 x1, .int .i64 x2] 82)).cell? ⟨W.heap.size + 1, 3, none⟩ = some (.int .i64 (n3 : Nat)) := by rw [cell_of H31.out]; rfl
        have d4 : (wr.alloc (.cells #[.int .i64 1, .int .i64 x1, .int .i64 x2] 82)).cell? ⟨W.heap.size + 1, 4, none⟩ = some (.int .i64 (n4 : Nat)) := by rw [cell_of H31.out]; rfl
        have zd0 := frozen_of H31.out 0
        have zd1 := frozen_of H31.out 1
        have zd2 := frozen_of H31.out 2
        have zd3 := frozen_of H31.out 3
        have zd4 := frozen_of H31.out 4
        have HS : Hid (n1 + 1 = cntP 1 (l.take (k + 1)) ∧ n2 = cntP 2 (l.take (k + 1)) ∧ n3 = cntP 3 (l.take (k + 1)) ∧ n4 = cntP 4 (l.take (k + 1))) := Lib.hid (by obtain ⟨r1, r2, r3, r4⟩ := HN.out; exact ⟨by rw [r1]; simp, by rw [r2]; simp, by rw [r3]; simp, by rw [r4]; simp⟩)
        have H33 := Lib.hid (blk_put H31.out 1 (.int .i64 ((n1 + 1 : Nat) : Int)) rfl)
        have H23 := Lib.hid ((Below.heap_setCell (wr.alloc (.cells #[.int .i64 1, .int .i64 x1, .int .i64 x2] 82)) ⟨W.heap.size + 1, 1, none⟩ (.int .i64 ((n1 + 1 : Nat) : Int)) W.heap.size (by simp)).trans H21.out)
        have HB3 := Lib.hid (below_grown HB1.out (Nat.le_refl _) (set_grown (wr.alloc (.cells #[.int .i64 1, .int .i64 x1, .int .i64 x2] 82)) (W.heap.size + 1) 1 (.int .i64 ((n1 + 1 : Nat) : Int))) (fun x hx => by injection hx with hx; omega))
        clear HN
        go_wp2
        go_roundw
        case rel => exact ⟨k + 1, n1 + 1, n2, n3, n4, by omega, by omega, by omega, by omega, by omega, by go_num, HS, H23, H33, HB3⟩
        case measure => simp [intOf]; omega
      · skip
        by_cases h2 : x0 = 2
        · subst h2
          have d0 : (wr.alloc (.cells #[.int .i64 2, .int .i64 x1, .int .i64 x2] 82)).cell? ⟨W.heap.size + 1, 0, none⟩ = some (.int .i64 (0)) := by rw [cell_of H31.out]; rfl
          have d1 : (wr.alloc (.cells #[.int .i64 2, .int .i64 x1, .int .i64 x2] 82)).cell? ⟨W.heap.size + 1, 1, none⟩ = some (.int .i64 (n1 : Nat)) := by rw [cell_of H31.out]; rfl
          have d2 : (wr.alloc (.cells #[.int .i64 2, .int .i64 x1, .int .i64 x2] 82)).cell? ⟨W.heap.size + 1, 2, none⟩ = some (.int .i64 (n2 : Nat)) := by rw [cell_of H31.out]; rfl
          have d3 : (wr.alloc (.cells #[.int .i64 2, .int .i64 x1, .int .i64 x2] 82)).cell? ⟨W.heap.size + 1, 3, none⟩ = some (.int .i64 (n3 : Nat)) := by rw [cell_of H31.out]; rfl
          have d4 : (wr.alloc (.cells #[.int .i64 2, .int .i64 x1, .int .i64 x2] 82)).cell? ⟨W.heap.size + 1, 4, none⟩ = some (.int .i64 (n4 : Nat)) := by rw [cell_of H31.out]; rfl
          have zd0 := frozen_of H31.out 0
          have zd1 := frozen_of H31.out 1
          have zd2 := frozen_of H31.out 2
          have zd3 := frozen_of H31.out 3
          have zd4 := frozen_of H31.out 4
          have HS : Hid (n1 = cntP 1 (l.take (k + 1)) ∧ n2 + 1 = cntP 2 (l.take (k + 1)) ∧ n3 = cntP 3 (l.take (k + 1)) ∧ n4 = cntP 4 (l.take (k + 1))) := Lib.hid (by obtain ⟨r1, r2, r3, r4⟩ := HN.out; exact ⟨by rw [r1]; simp, by rw [r2]; simp, by rw [r3]; simp, by rw [r4]; simp⟩)
          have H33 := Lib.hid (blk_put H31.out 2 (.int .i64 ((n2 + 1 : Nat) : Int)) rfl)
          have H23 := Lib.hid ((Below.heap_setCell (wr.alloc (.cells #[.int .i64 2, .int .i64 x1, .int .i64 x2] 82)) ⟨W.heap.size + 1, 2, none⟩ (.int .i64 ((n2 + 1 : Nat) : Int)) W.heap.size (by simp)).trans H21.out)
          have HB3 := Lib.hid (below_grown HB1.out (Nat.le_refl _) (set_grown (wr.alloc (.cells #[.int .i64 2, .int .i64 x1, .int .i64 x2] 82)) (W.heap.size + 1) 2 (.int .i64 ((n2 + 1 : Nat) : Int))) (fun x hx => by injection hx with hx; omega))
          clear HN
          go_wp2
          go_roundw
          case rel => exact ⟨k + 1, n1, n2 + 1, n3, n4, by omega, by omega, by omega, by omega, by omega, by go_num, HS, H23, H33, HB3⟩
          case measure => simp [intOf]; omega
        · skip
          by_cases h3 : x0 = 3
          · subst h3
            have d0 : (wr.alloc (.cells #[.int .i64 3, .int .i64 x1, .int .i64 x2] 82)).cell? ⟨W.heap.size + 1, 0, none⟩ = some (.int .i64 (0)) := by rw [cell_of H31.out]; rfl
            have d1 : (wr.alloc (.cells #[.int .i64 3, .int .i64 x1, .int .i64 x2] 82)).cell? ⟨W.heap.size + 1, 1, none⟩ = some (.int .i64 (n1 : Nat)) := by rw [cell_of H31.out]; rfl
            have d2 : (wr.alloc (.cells #[.int .i64 3, .int .i64 x1, .int .i64 x2] 82)).cell? ⟨W.heap.size + 1, 2, none⟩ = some (.int .i64 (n2 : Nat)) := by rw [cell_of H31.out]; rfl
            have d3 : (wr.alloc (.cells #[.int .i64 3, .int .i64 x1, .int .i64 x2] 82)).cell? ⟨W.heap.size + 1, 3, none⟩ = some (.int .i64 (n3 : Nat)) := by rw [cell_of H31.out]; rfl
            have d4 : (wr.alloc (.cells #[.int .i64 3, .int .i64 x1, .int .i64 x2] 82)).cell? ⟨W.heap.size + 1, 4, none⟩ = some (.int .i64 (n4 : Nat)) := by rw [cell_of H31.out]; rfl
            have zd0 := frozen_of H31.out 0
            have zd1 := frozen_of H31.out 1
            have zd2 := frozen_of H31.out 2
            have zd3 := frozen_of H31.out 3
            have zd4 := frozen_of H31.out 4
            have HS : Hid (n1 = cntP 1 (l.take (k + 1)) ∧ n2 = cntP 2 (l.take (k + 1)) ∧ n3 + 1 = cntP 3 (l.take (k + 1)) ∧ n4 = cntP 4 (l.take (k + 1))) := Lib.hid (by obtain ⟨r1, r2, r3, r4⟩ := HN.out; exact ⟨by rw [r1]; simp, by rw [r2]; simp, by rw [r3]; simp, by rw [r4]; simp⟩)
            have H33 := Lib.hid (blk_put H31.out 3 (.int .i64 ((n3 + 1 : Nat) : Int)) rfl)
            have H23 := Lib.hid ((Below.heap_setCell (wr.alloc (.cells #[.int .i64 3, .int .i64 x1, .int .i64 x2] 82)) ⟨W.heap.size + 1, 3, none⟩ (.int .i64 ((n3 + 1 : Nat) : Int)) W.heap.size (by simp)).trans H21.out)
            have HB3 := Lib.hid (below_grown HB1.out (Nat.le_refl _) (set_grown (wr.alloc (.cells #[.int .i64 3, .int .i64 x1, .int .i64 x2] 82)) (W.heap.size + 1) 3 (.int .i64 ((n3 + 1 : Nat) : Int))) (fun x hx => by injection hx with hx; omega))
            clear HN
            go_wp2
            go_roundw
            case rel => exact ⟨k + 1, n1, n2, n3 + 1, n4, by omega, by omega, by omega, by omega, by omega, by go_num, HS, H23, H33, HB3⟩
            case measure => simp [intOf]; omega
          · skip
            by_cases h4 : x0 = 4
            · subst h4
              have d0 : (wr.alloc (.cells #[.int .i64 4, .int .i64 x1, .int .i64 x2] 82)).cell? ⟨W.heap.size + 1, 0, none⟩ = some (.int .i64 (0)) := by rw [cell_of H31.out]; rfl
              have d1 : (wr.alloc (.cells #[.int .i64 4, .int .i64 x1, .int .i64 x2] 82)).cell? ⟨W.heap.size + 1, 1, none⟩ = some (.int .i64 (n1 : Nat)) := by rw [cell_of H31.out]; rfl
              have d2 : (wr.alloc (.cells #[.int .i64 4, .int .i64 x1, .int .i64 x2] 82)).cell? ⟨W.heap.size + 1, 2, none⟩ = some (.int .i64 (n2 : Nat)) := by rw [cell_of H31.out]; rfl
              have d3 : (wr.alloc (.cells #[.int .i64 4, .int .i64 x1, .int .i64 x2] 82)).cell? ⟨W.heap.size + 1, 3, none⟩ = some (.int .i64 (n3 : Nat)) := by rw [cell_of H31.out]; rfl
              have d4 : (wr.alloc (.cells #[.int .i64 4, .int .i64 x1, .int .i64 x2] 82)).cell? ⟨W.heap.size + 1, 4, none⟩ = some (.int .i64 (n4 : Nat)) := by rw [cell_of H31.out]; rfl
              have zd0 := frozen_of H31.out 0
              have zd1 := frozen_of H31.out 1
              have zd2 := frozen_of H31.out 2
              have zd3 := frozen_of H31.out 3
              have zd4 := frozen_of H31.out 4
              have HS : Hid (n1 = cntP 1 (l.take (k + 1)) ∧ n2 = cntP 2 (l.take (k + 1)) ∧ n3 = cntP 3 (l.take (k + 1)) ∧ n4 + 1 = cntP 4 (l.take (k + 1))) := Lib.hid (by obtain ⟨r1, r2, r3, r4⟩ := HN.out; exact ⟨by rw [r1]; simp, by rw [r2]; simp, by rw [r3]; simp, by rw [r4]; simp⟩)
              have H33 := Lib.hid (blk_put H31.out 4 (.int .i64 ((n4 + 1 : Nat) : Int)) rfl)
              have H23 := Lib.hid ((Below.heap_setCell (wr.alloc (.cells #[.int .i64 4, .int .i64 x1, .int .i64 x2] 82)) ⟨W.heap.size + 1, 4, none⟩ (.int .i64 ((n4 + 1 : Nat) : Int)) W.heap.size (by simp)).trans H21.out)
              have HB3 := Lib.hid (below_grown HB1.out (Nat.le_refl _) (set_grown (wr.alloc (.cells #[.int .i64 4, .int .i64 x1, .int .i64 x2] 82)) (W.heap.size + 1) 4 (.int .i64 ((n4 + 1 : Nat) : Int))) (fun x hx => by injection hx with hx; omega))
              clear HN
              go_wp2
              go_roundw
              case rel => exact ⟨k + 1, n1, n2, n3, n4 + 1, by omega, by omega, by omega, by omega, by omega, by go_num, HS, H23, H33, HB3⟩
              case measure => simp [intOf]; omega
            · skip
              have HS : Hid (n1 = cntP 1 (l.take (k + 1)) ∧ n2 = cntP 2 (l.take (k + 1)) ∧ n3 = cntP 3 (l.take (k + 1)) ∧ n4 = cntP 4 (l.take (k + 1))) := Lib.hid (by obtain ⟨r1, r2, r3, r4⟩ := HN.out; exact ⟨by rw [r1]; simp [h1], by rw [r2]; simp [h2], by rw [r3]; simp [h3], by rw [r4]; simp [h4]⟩)
              by_cases hge : 1 ≤ x0
              · have hle : ¬ x0 ≤ 4 := by omega
                clear h1 h2 h3 h4 HN
                go_wp2
                go_roundw
                case rel => exact ⟨k + 1, n1, n2, n3, n4, by omega, by omega, by omega, by omega, by omega, by go_num, HS, H21, H31, HB1⟩
                case measure => simp [intOf]; omega
              · clear h1 h2 h3 h4 HN
                go_wp2
                go_roundw
                case rel => exact ⟨k + 1, n1, n2, n3, n4, by omega, by omega, by omega, by omega, by omega, by go_num, HS, H21, H31, HB1⟩
                case measure => simp [intOf]; omega
    · skip
      have HS : Hid (n1 = cntP 1 l ∧ n2 = cntP 2 l ∧ n3 = cntP 3 l ∧ n4 = cntP 4 l) := Lib.hid (by have := HR.out; rw [List.take_of_length_le (by omega)] at this; exact this)
      clear HR
      have d0 : wr.cell? ⟨W.heap.size + 1, 0, none⟩ = some (.int .i64 (0)) := by rw [cell_of H3.out]; rfl
      have d1 : wr.cell? ⟨W.heap.size + 1, 1, none⟩ = some (.int .i64 (n1 : Nat)) := by rw [cell_of H3.out]; rfl
      have d2 : wr.cell? ⟨W.heap.size + 1, 2, none⟩ = some (.int .i64 (n2 : Nat)) := by rw [cell_of H3.out]; rfl
      have d3 : wr.cell? ⟨W.heap.size + 1, 3, none⟩ = some (.int .i64 (n3 : Nat)) := by rw [cell_of H3.out]; rfl
      have d4 : wr.cell? ⟨W.heap.size + 1, 4, none⟩ = some (.int .i64 (n4 : Nat)) := by rw [cell_of H3.out]; rfl
      have q0 : wr.cell? ⟨W.heap.size, 0, none⟩ = some (.int .i64 0) := by rw [cell_of H2.out]; rfl
      have q1 : wr.cell? ⟨W.heap.size, 1, none⟩ = some (.int .i64 0) := by rw [cell_of H2.out]; rfl
      have q2 : wr.cell? ⟨W.heap.size, 2, none⟩ = some (.int .i64 0) := by rw [cell_of H2.out]; rfl
      have q3 : wr.cell? ⟨W.heap.size, 3, none⟩ = some (.int .i64 0) := by rw [cell_of H2.out]; rfl
      have q4 : wr.cell? ⟨W.heap.size, 4, none⟩ = some (.int .i64 0) := by rw [cell_of H2.out]; rfl
      have zq0 := frozen_of H2.out 0
      have zq1 := frozen_of H2.out 1
      have zq2 := frozen_of H2.out 2
      have zq3 := frozen_of H2.out 3
      have zq4 := frozen_of H2.out 4
      go_wp2
      refine bodyPost_ret (results_cell_row (ty := 51) rfl _ _ W.heap.size _ _ _ _ rfl (put5 H2.out _ _ _ _ _) Tryz.underlying51 rfl size5) rfl ?_
      exact ⟨by rw [← HS.out.1, ← HS.out.2.1, ← HS.out.2.2.1, ← HS.out.2.2.2], below5 HB.out (Nat.le_refl _) (Nat.le_refl _) _ _ _ _ _⟩
set_option maxHeartbeats 8000000 in
set_option maxRecDepth 100000 in
theorem rcount_any (l : List Ac) (A : Option Addr) (c : Nat) (W : World) (hl : ActC W A l) (hn : l.length ≤ 1000) :
    Calls Tryz.prog 37 #[.slice A l.length c] W fun e w' => e = .returned (.agg #[.int .i64 0, .int .i64 (cntP 1 l : Nat), .int .i64 (cntP 2 l : Nat), .int .i64 (cntP 3 l : Nat), .int .i64 (cntP 4 l : Nat)]) ∧ Below W.heap.size W w' := by
  have hb1 := below_one W (.cells #[.int .i64 0, .int .i64 0, .int .i64 0, .int .i64 0, .int .i64 0] 51)
  have hb2 := below_one (W.alloc (.cells #[.int .i64 0, .int .i64 0, .int .i64 0, .int .i64 0, .int .i64 0] 51)) (.cells #[.int .i64 0, .int .i64 0, .int .i64 0, .int .i64 0, .int .i64 0] 51)
  have HB0 := Lib.hid (below_next hb1 hb2)
  have HL := Lib.hid hl
  have hl1 := hl.2.1
  have hh2 := (hb2.block W.heap.size (by simp)).trans (heap_new W (.cells #[.int .i64 0, .int .i64 0, .int .i64 0, .int .i64 0, .int .i64 0] 51))
  have hh3 := heap_new (W.alloc (.cells #[.int .i64 0, .int .i64 0, .int .i64 0, .int .i64 0, .int .i64 0] 51)) (.cells #[.int .i64 0, .int .i64 0, .int .i64 0, .int .i64 0, .int .i64 0] 51)
  rw [show (W.alloc (.cells #[.int .i64 0, .int .i64 0, .int .i64 0, .int .i64 0, .int .i64 0] 51)).heap.size = W.heap.size + 1 by simp] at hh3
  have H2 := Lib.hid hh2
  have H3 := Lib.hid hh3
  clear hl hb1 hb2 hh2 hh3
  go_enter Tryz.func37, Tryz.ntmps37
  go_wp2
  generalize (W.alloc (.cells #[.int .i64 0, .int .i64 0, .int .i64 0, .int .i64 0, .int .i64 0] 51)).alloc (.cells #[.int .i64 0, .int .i64 0, .int .i64 0, .int .i64 0, .int .i64 0] 51) = U at *
  have HR0 : Hid ((0 : Nat) = cntP 1 (l.take 0) ∧ (0 : Nat) = cntP 2 (l.take 0) ∧ (0 : Nat) = cntP 3 (l.take 0) ∧ (0 : Nat) = cntP 4 (l.take 0)) := Lib.hid ⟨rfl, rfl, rfl, rfl⟩
  go_loopw [6, 9] (fun v6 i wr => ∃ (k n1 n2 n3 n4 : Nat), k ≤ l.length ∧ n1 ≤ k ∧ n2 ≤ k ∧ n3 ≤ k ∧ n4 ≤ k ∧ i = .int .i64 k ∧ Hid (n1 = cntP 1 (l.take k) ∧ n2 = cntP 2 (l.take k) ∧ n3 = cntP 3 (l.take k) ∧ n4 = cntP 4 (l.take k)) ∧ Hid (wr.heap[W.heap.size]? = some (.cells #[.int .i64 0, .int .i64 0, .int .i64 0, .int .i64 0, .int .i64 0] 51 (0, 0))) ∧ Hid (wr.heap[W.heap.size + 1]? = some (.cells #[.int .i64 0, .int .i64 (n1 : Nat), .int .i64 (n2 : Nat), .int .i64 (n3 : Nat), .int .i64 (n4 : Nat)] 51 (0, 0))) ∧ Hid (Below W.heap.size W wr)) (fun v6 i _ => l.length - (intOf i).toNat)
  case atStart => exact ⟨0, 0, 0, 0, 0, by omega, by omega, by omega, by omega, by omega, rfl, HR0, H2, H3, HB0⟩
  case round =>
    clear HR0 H2 H3 HB0
    obtain ⟨k, n1, n2, n3, n4, hk, hk1, hk2, hk3, hk4, rfl, HR, H2, H3, HB⟩ := hrel
    by_cases hlt : k < l.length
    · obtain ⟨ad, rfl, e0, e1, e2⟩ := ac_at (Kd.C_below HL.out HB.out) hlt
      have hltI : (k : Int) < l.length := by omega
      have HN : Hid (cntP 1 (l.take (k + 1)) = n1 + (if l[k].1 = 1 then 1 else 0) ∧ cntP 2 (l.take (k + 1)) = n2 + (if l[k].1 = 2 then 1 else 0) ∧ cntP 3 (l.take (k + 1)) = n3 + (if l[k].1 = 3 then 1 else 0) ∧ cntP 4 (l.take (k + 1)) = n4 + (if l[k].1 = 4 then 1 else 0)) := Lib.hid (by
        obtain ⟨r1, r2, r3, r4⟩ := HR.out
        rw [r1, r2, r3, r4]
        exact ⟨cnt_at hlt, cnt_at hlt, cnt_at hlt, cnt_at hlt⟩)
      clear HR
      generalize l[k] = x at *
      obtain ⟨x0, x1, x2⟩ := x
      simp only at e0 e1 e2
      have hb := below_one wr (.cells #[.int .i64 x0, .int .i64 x1, .int .i64 x2] 83)
      have HX := Lib.hid (heap_new wr (.cells #[.int .i64 x0, .int .i64 x1, .int .i64 x2] 83))
      have HB1 := Lib.hid (below_next HB.out hb)
      have H21 := Lib.hid ((hb.block _ (Array.getElem?_eq_some_iff.1 H2.out).1).trans H2.out)
      have H31 := Lib.hid ((hb.block _ (Array.getElem?_eq_some_iff.1 H3.out).1).trans H3.out)
      clear hb HB H2 H3
      have c0 : (wr.alloc (.cells #[.int .i64 x0, .int .i64 x1, .int .i64 x2] 83)).cell? ⟨wr.heap.size, 0, none⟩ = some (.int .i64 x0) := by rw [cell_of HX.out]; rfl
      go_wp2
      generalize (wr.alloc (.cells #[.int .i64 x0, .int .i64 x1, .int .i64 x2] 83)) = w1 at *
      generalize wr.heap.size = bx at *
      clear c0 e0 e1 e2
      have HI0 : Hid (n1 = n1 + (if x0 = 1 ∧ 1 < 1 then 1 else 0) ∧ n2 = n2 + (if x0 = 2 ∧ 2 < 1 then 1 else 0) ∧ n3 = n3 + (if x0 = 3 ∧ 3 < 1 then 1 else 0) ∧ n4 = n4 + (if x0 = 4 ∧ 4 < 1 then 1 else 0)) := Lib.hid (by simp)
      go_loopw [6] (fun v6 wi => ∃ (q m1 m2 m3 m4 : Nat), 1 ≤ q ∧ q ≤ 5 ∧ m1 ≤ k + 1 ∧ m2 ≤ k + 1 ∧ m3 ≤ k + 1 ∧ m4 ≤ k + 1 ∧ v6 = .int .i64 q ∧ Hid (m1 = n1 + (if x0 = 1 ∧ 1 < q then 1 else 0) ∧ m2 = n2 + (if x0 = 2 ∧ 2 < q then 1 else 0) ∧ m3 = n3 + (if x0 = 3 ∧ 3 < q then 1 else 0) ∧ m4 = n4 + (if x0 = 4 ∧ 4 < q then 1 else 0)) ∧ Hid (wi.heap[bx]? = some (.cells #[.int .i64 x0, .int .i64 x1, .int .i64 x2] 83)) ∧ Hid (wi.heap[W.heap.size]? = some (.cells #[.int .i64 0, .int .i64 0, .int .i64 0, .int .i64 0, .int .i64 0] 51 (0, 0))) ∧ Hid (wi.heap[W.heap.size + 1]? = some (.cells #[.int .i64 0, .int .i64 (m1 : Nat), .int .i64 (m2 : Nat), .int .i64 (m3 : Nat), .int .i64 (m4 : Nat)] 51 (0, 0))) ∧ Hid (Below W.heap.size W wi)) (fun v6 _ => 5 - (intOf v6).toNat)
      case atStart => exact ⟨1, n1, n2, n3, n4, by omega, by omega, by omega, by omega, by omega, by omega, rfl, HI0, HX, H21, H31, HB1⟩
      case round =>
        clear HI0 HX H21 H31 HB1
        obtain ⟨q, m1, m2, m3, m4, hq1, hq5, hm1, hm2, hm3, hm4, rfl, HI, HX, H2, H3, HB⟩ := hrel
        by_cases hq : q ≤ 4
        · have hbne : bx ≠ W.heap.size + 1 := by intro e; have h1 := HX.out; rw [e, H3.out] at h1; injection h1 with h1; injection h1 with h1; simp at h1
          rcases (show q = 1 ∨ q = 2 ∨ q = 3 ∨ q = 4 by omega) with hqq | hqq | hqq | hqq <;> subst hqq
          · have c0 : wr.cell? ⟨bx, 0, none⟩ = some (.int .i64 x0) := by rw [cell_of HX.out]; rfl
            by_cases hx : x0 = 1
            · subst hx
              have d0 : wr.cell? ⟨W.heap.size + 1, 0, none⟩ = some (.int .i64 (0)) := by rw [cell_of H3.out]; rfl
              have d1 : wr.cell? ⟨W.heap.size + 1, 1, none⟩ = some (.int .i64 (m1 : Nat)) := by rw [cell_of H3.out]; rfl
              have d2 : wr.cell? ⟨W.heap.size + 1, 2, none⟩ = some (.int .i64 (m2 : Nat)) := by rw [cell_of H3.out]; rfl
              have d3 : wr.cell? ⟨W.heap.size + 1, 3, none⟩ = some (.int .i64 (m3 : Nat)) := by rw [cell_of H3.out]; rfl
              have d4 : wr.cell? ⟨W.heap.size + 1, 4, none⟩ = some (.int .i64 (m4 : Nat)) := by rw [cell_of H3.out]; rfl
              have zd0 := frozen_of H3.out 0
              have zd1 := frozen_of H3.out 1
              have zd2 := frozen_of H3.out 2
              have zd3 := frozen_of H3.out 3
              have zd4 := frozen_of H3.out 4
              have HS : Hid (m1 + 1 = n1 + (if (1 : Int) = 1 ∧ 1 < 2 then 1 else 0) ∧ m2 = n2 + (if (1 : Int) = 2 ∧ 2 < 2 then 1 else 0) ∧ m3 = n3 + (if (1 : Int) = 3 ∧ 3 < 2 then 1 else 0) ∧ m4 = n4 + (if (1 : Int) = 4 ∧ 4 < 2 then 1 else 0)) := Lib.hid (by obtain ⟨r1, r2, r3, r4⟩ := HI.out; rw [r1, r2, r3, r4]; simp)
              have hmq : m1 ≤ n1 := by obtain ⟨r1, r2, r3, r4⟩ := HI.out; rw [r1]; simp
              have H33 := Lib.hid (blk_put H3.out 1 (.int .i64 ((m1 + 1 : Nat) : Int)) rfl)
              have H23 := Lib.hid ((Below.heap_setCell wr ⟨W.heap.size + 1, 1, none⟩ (.int .i64 ((m1 + 1 : Nat) : Int)) W.heap.size (by simp)).trans H2.out)
              have HX3 := Lib.hid ((Below.heap_setCell wr ⟨W.heap.size + 1, 1, none⟩ (.int .i64 ((m1 + 1 : Nat) : Int)) bx hbne).trans HX.out)
              have HB3 := Lib.hid (below_grown HB.out (Nat.le_refl _) (set_grown wr (W.heap.size + 1) 1 (.int .i64 ((m1 + 1 : Nat) : Int))) (fun x hx => by injection hx with hx; omega))
              clear HI
              go_wp2
              go_roundw
              case rel => exact ⟨2, m1 + 1, m2, m3, m4, by omega, by omega, by omega, by omega, by omega, by omega, by go_num, HS, HX3, H23, H33, HB3⟩
              case measure => simp [intOf]
            · have g0 : (x0 == 1) = false := beq_eq_false_iff_ne.2 hx
              have HS : Hid (m1 = n1 + (if x0 = 1 ∧ 1 < 2 then 1 else 0) ∧ m2 = n2 + (if x0 = 2 ∧ 2 < 2 then 1 else 0) ∧ m3 = n3 + (if x0 = 3 ∧ 3 < 2 then 1 else 0) ∧ m4 = n4 + (if x0 = 4 ∧ 4 < 2 then 1 else 0)) := Lib.hid (by obtain ⟨r1, r2, r3, r4⟩ := HI.out; rw [r1, r2, r3, r4]; simp [hx])
              clear HI hx
              go_wp2
              go_roundw
              case rel => exact ⟨2, m1, m2, m3, m4, by omega, by omega, by omega, by omega, by omega, by omega, by go_num, HS, HX, H2, H3, HB⟩
              case measure => simp [intOf]
          · have c0 : wr.cell? ⟨bx, 0, none⟩ = some (.int .i64 x0) := by rw [cell_of HX.out]; rfl
            by_cases hx : x0 = 2
            · subst hx
              have d0 : wr.cell? ⟨W.heap.size + 1, 0, none⟩ = some (.int .i64 (0)) := by rw [cell_of H3.out]; rfl
              have d1 : wr.cell? ⟨W.heap.size + 1, 1, none⟩ = some (.int .i64 (m1 : Nat)) := by rw [cell_of H3.out]; rfl
              have d2 : wr.cell? ⟨W.heap.size + 1, 2, none⟩ = some (.int .i64 (m2 : Nat)) := by rw [cell_of H3.out]; rfl
              have d3 : wr.cell? ⟨W.heap.size + 1, 3, none⟩ = some (.int .i64 (m3 : Nat)) := by rw [cell_of H3.out]; rfl
              have d4 : wr.cell? ⟨W.heap.size + 1, 4, none⟩ = some (.int .i64 (m4 : Nat)) := by rw [cell_of H3.out]; rfl
              have zd0 := frozen_of H3.out 0
              have zd1 := frozen_of H3.out 1
              have zd2 := frozen_of H3.out 2
              have zd3 := frozen_of H3.out 3
              have zd4 := frozen_of H3.out 4
              have HS : Hid (m1 = n1 + (if (2 : Int) = 1 ∧ 1 < 3 then 1 else 0) ∧ m2 + 1 = n2 + (if (2 : Int) = 2 ∧ 2 < 3 then 1 else 0) ∧ m3 = n3 + (if (2 : Int) = 3 ∧ 3 < 3 then 1 else 0) ∧ m4 = n4 + (if (2 : Int) = 4 ∧ 4 < 3 then 1 else 0)) := Lib.hid (by obtain ⟨r1, r2, r3, r4⟩ := HI.out; rw [r1, r2, r3, r4]; simp)
              have hmq : m2 ≤ n2 := by obtain ⟨r1, r2, r3, r4⟩ := HI.out; rw [r2]; simp
              have H33 := Lib.hid (blk_put H3.out 2 (.int .i64 ((m2 + 1 : Nat) : Int)) rfl)
              have H23 := Lib.hid ((Below.heap_setCell wr ⟨W.heap.size + 1, 2, none⟩ (.int .i64 ((m2 + 1 : Nat) : Int)) W.heap.size (by simp)).trans H2.out)
              have HX3 := Lib.hid ((Below.heap_setCell wr ⟨W.heap.size + 1, 2, none⟩ (.int .i64 ((m2 + 1 : Nat) : Int)) bx hbne).trans HX.out)
              have HB3 := Lib.hid (below_grown HB.out (Nat.le_refl _) (set_grown wr (W.heap.size + 1) 2 (.int .i64 ((m2 + 1 : Nat) : Int))) (fun x hx => by injection hx with hx; omega))
              clear HI
              go_wp2
              go_roundw
              case rel => exact ⟨3, m1, m2 + 1, m3, m4, by omega, by omega, by omega, by omega, by omega, by omega, by go_num, HS, HX3, H23, H33, HB3⟩
              case measure => simp [intOf]
            · have g0 : (x0 == 2) = false := beq_eq_false_iff_ne.2 hx
              have HS : Hid (m1 = n1 + (if x0 = 1 ∧ 1 < 3 then 1 else 0) ∧ m2 = n2 + (if x0 = 2 ∧ 2 < 3 then 1 else 0) ∧ m3 = n3 + (if x0 = 3 ∧ 3 < 3 then 1 else 0) ∧ m4 = n4 + (if x0 = 4 ∧ 4 < 3 then 1 else 0)) := Lib.hid (by obtain ⟨r1, r2, r3, r4⟩ := HI.out; rw [r1, r2, r3, r4]; simp [hx])
              clear HI hx
              go_wp2
              go_roundw
              case rel => exact ⟨3, m1, m2, m3, m4, by omega, by omega, by omega, by omega, by omega, by omega, by go_num, HS, HX, H2, H3, HB⟩
              case measure => simp [intOf]
          · have c0 : wr.cell? ⟨bx, 0, none⟩ = some (.int .i64 x0) := by rw [cell_of HX.out]; rfl
            by_cases hx : x0 = 3
            · subst hx
              have d0 : wr.cell? ⟨W.heap.size + 1, 0, none⟩ = some (.int .i64 (0)) := by rw [cell_of H3.out]; rfl
              have d1 : wr.cell? ⟨W.heap.size + 1, 1, none⟩ = some (.int .i64 (m1 : Nat)) := by rw [cell_of H3.out]; rfl
              have d2 : wr.cell? ⟨W.heap.size + 1, 2, none⟩ = some (.int .i64 (m2 : Nat)) := by rw [cell_of H3.out]; rfl
              have d3 : wr.cell? ⟨W.heap.size + 1, 3, none⟩ = some (.int .i64 (m3 : Nat)) := by rw [cell_of H3.out]; rfl
              have d4 : wr.cell? ⟨W.heap.size + 1, 4, none⟩ = some (.int .i64 (m4 : Nat)) := by rw [cell_of H3.out]; rfl
              have zd0 := frozen_of H3.out 0
              have zd1 := frozen_of H3.out 1
              have zd2 := frozen_of H3.out 2
              have zd3 := frozen_of H3.out 3
              have zd4 := frozen_of H3.out 4
              have HS : Hid (m1 = n1 + (if (3 : Int) = 1 ∧ 1 < 4 then 1 else 0) ∧ m2 = n2 + (if (3 : Int) = 2 ∧ 2 < 4 then 1 else 0) ∧ m3 + 1 = n3 + (if (3 : Int) = 3 ∧ 3 < 4 then 1 else 0) ∧ m4 = n4 + (if (3 : Int) = 4 ∧ 4 < 4 then 1 else 0)) := Lib.hid (by obtain ⟨r1, r2, r3, r4⟩ := HI.out; rw [r1, r2, r3, r4]; simp)
              have hmq : m3 ≤ n3 := by obtain ⟨r1, r2, r3, r4⟩ := HI.out; rw [r3]; simp
              have H33 := Lib.hid (blk_put H3.out 3 (.int .i64 ((m3 + 1 : Nat) : Int)) rfl)
              have H23 := Lib.hid ((Below.heap_setCell wr ⟨W.heap.size + 1, 3, none⟩ (.int .i64 ((m3 + 1 : Nat) : Int)) W.heap.size (by simp)).trans H2.out)
              have HX3 := Lib.hid ((Below.heap_setCell wr ⟨W.heap.size + 1, 3, none⟩ (.int .i64 ((m3 + 1 : Nat) : Int)) bx hbne).trans HX.out)
              have HB3 := Lib.hid (below_grown HB.out (Nat.le_refl _) (set_grown wr (W.heap.size + 1) 3 (.int .i64 ((m3 + 1 : Nat) : Int))) (fun x hx => by injection hx with hx; omega))
              clear HI
              go_wp2
              go_roundw
              case rel => exact ⟨4, m1, m2, m3 + 1, m4, by omega, by omega, by omega, by omega, by omega, by omega, by go_num, HS, HX3, H23, H33, HB3⟩
              case measure => simp [intOf]
            · have g0 : (x0 == 3) = false := beq_eq_false_iff_ne.2 hx
              have HS : Hid (m1 = n1 + (if x0 = 1 ∧ 1 < 4 then 1 else 0) ∧ m2 = n2 + (if x0 = 2 ∧ 2 < 4 then 1 else 0) ∧ m3 = n3 + (if x0 = 3 ∧ 3 < 4 then 1 else 0) ∧ m4 = n4 + (if x0 = 4 ∧ 4 < 4 then 1 else 0)) := Lib.hid (by obtain ⟨r1, r2, r3, r4⟩ := HI.out; rw [r1, r2, r3, r4]; simp [hx])
              clear HI hx
              go_wp2
              go_roundw
              case rel => exact ⟨4, m1, m2, m3, m4, by omega, by omega, by omega, by omega, by omega, by omega, by go_num, HS, HX, H2, H3, HB⟩
              case measure => simp [intOf]
          · have c0 : wr.cell? ⟨bx, 0, none⟩ = some (.int .i64 x0) := by rw [cell_of HX.out]; rfl
            by_cases hx : x0 = 4
            · subst hx
              have d0 : wr.cell? ⟨W.heap.size + 1, 0, none⟩ = some (.int .i64 (0)) := by rw [cell_of H3.out]; rfl
              have d1 : wr.cell? ⟨W.heap.size + 1, 1, none⟩ = some (.int .i64 (m1 : Nat)) := by rw [cell_of H3.out]; rfl
              have d2 : wr.cell? ⟨W.heap.size + 1, 2, none⟩ = some (.int .i64 (m2 : Nat)) := by rw [cell_of H3.out]; rfl
              have d3 : wr.cell? ⟨W.heap.size + 1, 3, none⟩ = some (.int .i64 (m3 : Nat)) := by rw [cell_of H3.out]; rfl
              have d4 : wr.cell? ⟨W.heap.size + 1, 4, none⟩ = some (.int .i64 (m4 : Nat)) := by rw [cell_of H3.out]; rfl
              have zd0 := frozen_of H3.out 0
              have zd1 := frozen_of H3.out 1
              have zd2 := frozen_of H3.out 2
              have zd3 := frozen_of H3.out 3
              have zd4 := frozen_of H3.out 4
              have HS : Hid (m1 = n1 + (if (4 : Int) = 1 ∧ 1 < 5 then 1 else 0) ∧ m2 = n2 + (if (4 : Int) = 2 ∧ 2 < 5 then 1 else 0) ∧ m3 = n3 + (if (4 : Int) = 3 ∧ 3 < 5 then 1 else 0) ∧ m4 + 1 = n4 + (if (4 : Int) = 4 ∧ 4 < 5 then 1 else 0)) := Lib.hid (by obtain ⟨r1, r2, r3, r4⟩ := HI.out; rw [r1, r2, r3, r4]; simp)
              have hmq : m4 ≤ n4 := by obtain ⟨r1, r2, r3, r4⟩ := HI.out; rw [r4]; simp
              have H33 := Lib.hid (blk_put H3.out 4 (.int .i64 ((m4 + 1 : Nat) : Int)) rfl)
              have H23 := Lib.hid ((Below.heap_setCell wr ⟨W.heap.size + 1, 4, none⟩ (.int .i64 ((m4 + 1 : Nat) : Int)) W.heap.size (by simp)).trans H2.out)
              have HX3 := Lib.hid ((Below.heap_setCell wr ⟨W.heap.size + 1, 4, none⟩ (.int .i64 ((m4 + 1 : Nat) : Int)) bx hbne).trans HX.out)
              have HB3 := Lib.hid (below_grown HB.out (Nat.le_refl _) (set_grown wr (W.heap.size + 1) 4 (.int .i64 ((m4 + 1 : Nat) : Int))) (fun x hx => by injection hx with hx; omega))
              clear HI
              go_wp2
              go_roundw
              case rel => exact ⟨5, m1, m2, m3, m4 + 1, by omega, by omega, by omega, by omega, by omega, by omega, by go_num, HS, HX3, H23, H33, HB3⟩
              case measure => simp [intOf]
            · have g0 : (x0 == 4) = false := beq_eq_false_iff_ne.2 hx
              have HS : Hid (m1 = n1 + (if x0 = 1 ∧ 1 < 5 then 1 else 0) ∧ m2 = n2 + (if x0 = 2 ∧ 2 < 5 then 1 else 0) ∧ m3 = n3 + (if x0 = 3 ∧ 3 < 5 then 1 else 0) ∧ m4 = n4 + (if x0 = 4 ∧ 4 < 5 then 1 else 0)) := Lib.hid (by obtain ⟨r1, r2, r3, r4⟩ := HI.out; rw [r1, r2, r3, r4]; simp [hx])
              clear HI hx
              go_wp2
              go_roundw
              case rel => exact ⟨5, m1, m2, m3, m4, by omega, by omega, by omega, by omega, by omega, by omega, by go_num, HS, HX, H2, H3, HB⟩
              case measure => simp [intOf]
        · have hq5 : q = 5 := by omega
          subst hq5
          have HS : Hid (m1 = cntP 1 (l.take (k + 1)) ∧ m2 = cntP 2 (l.take (k + 1)) ∧ m3 = cntP 3 (l.take (k + 1)) ∧ m4 = cntP 4 (l.take (k + 1))) := Lib.hid (by
            obtain ⟨r1, r2, r3, r4⟩ := HI.out
            obtain ⟨s1, s2, s3, s4⟩ := HN.out
            rw [s1, s2, s3, s4, r1, r2, r3, r4]
            simp)
          clear HI HN
          go_wp2
          go_roundw
          case rel => exact ⟨k + 1, m1, m2, m3, m4, by omega, by omega, by omega, by omega, by omega, by go_num, HS, H2, H3, HB⟩
          case measure => simp [intOf]; omega
    · skip
      have HS : Hid (n1 = cntP 1 l ∧ n2 = cntP 2 l ∧ n3 = cntP 3 l ∧ n4 = cntP 4 l) := Lib.hid (by have := HR.out; rw [List.take_of_length_le (by omega)] at this; exact this)
      clear HR
      have d0 : wr.cell? ⟨W.heap.size + 1, 0, none⟩ = some (.int .i64 (0)) := by rw [cell_of H3.out]; rfl
      have d1 : wr.cell? ⟨W.heap.size + 1, 1, none⟩ = some (.int .i64 (n1 : Nat)) := by rw [cell_of H3.out]; rfl
      have d2 : wr.cell? ⟨W.heap.size + 1, 2, none⟩ = some (.int .i64 (n2 : Nat)) := by rw [cell_of H3.out]; rfl
      have d3 : wr.cell? ⟨W.heap.size + 1, 3, none⟩ = some (.int .i64 (n3 : Nat)) := by rw [cell_of H3.out]; rfl
      have d4 : wr.cell? ⟨W.heap.size + 1, 4, none⟩ = some (.int .i64 (n4 : Nat)) := by rw [cell_of H3.out]; rfl
      have q0 : wr.cell? ⟨W.heap.size, 0, none⟩ = some (.int .i64 0) := by rw [cell_of H2.out]; rfl
      have q1 : wr.cell? ⟨W.heap.size, 1, none⟩ = some (.int .i64 0) := by rw [cell_of H2.out]; rfl
      have q2 : wr.cell? ⟨W.heap.size, 2, none⟩ = some (.int .i64 0) := by rw [cell_of H2.out]; rfl
      have q3 : wr.cell? ⟨W.heap.size, 3, none⟩ = some (.int .i64 0) := by rw [cell_of H2.out]; rfl
      have q4 : wr.cell? ⟨W.heap.size, 4, none⟩ = some (.int .i64 0) := by rw [cell_of H2.out]; rfl
      have zq0 := frozen_of H2.out 0
      have zq1 := frozen_of H2.out 1
      have zq2 := frozen_of H2.out 2
      have zq3 := frozen_of H2.out 3
      have zq4 := frozen_of H2.out 4
      go_wp2
      refine bodyPost_ret (results_cell_row (ty := 51) rfl _ _ W.heap.size _ _ _ _ rfl (put5 H2.out _ _ _ _ _) Tryz.underlying51 rfl size5) rfl ?_
      exact ⟨by rw [← HS.out.1, ← HS.out.2.1, ← HS.out.2.2.1, ← HS.out.2.2.2], below5 HB.out (Nat.le_refl _) (Nat.le_refl _) _ _ _ _ _⟩
end Go.Proofs.YtpjjooiamdfmfaaGreatDoor.PlanCnt
