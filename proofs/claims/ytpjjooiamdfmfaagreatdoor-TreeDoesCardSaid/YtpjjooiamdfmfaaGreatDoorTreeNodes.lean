/- the map of a list's nodes. -/
import Derived.Test.YtpjjooiamdfmfaaGreatDoorTreeRight
import Derived.Test.YtpjjooiamdfmfaaGreatDoorMapA
set_option linter.unusedVariables false
set_option linter.unusedSimpArgs false
namespace Go.Proofs.YtpjjooiamdfmfaaGreatDoor.TreeNodes
open Go.RowKit Go.Proofs.YtpjjooiamdfmfaaGreatDoorW.PrintWords Go.Proofs.YtpjjooiamdfmfaaGreatDoorW.PrintLast Go.Proofs.YtpjjooiamdfmfaaGreatDoorW.PrintMore Go.Proofs.YtpjjooiamdfmfaaGreatDoor.Item Go.Proofs.YtpjjooiamdfmfaaGreatDoor.Own Go.Proofs.YtpjjooiamdfmfaaGreatDoor.TreeLaw Go.Proofs.YtpjjooiamdfmfaaGreatDoor.NameLaw Go.Proofs.YtpjjooiamdfmfaaGreatDoor.NameWalk Go.Proofs.YtpjjooiamdfmfaaGreatDoor.NameOrd Go.Proofs.YtpjjooiamdfmfaaGreatDoor.NameRef Go.Proofs.YtpjjooiamdfmfaaGreatDoor.NameUse Go.Proofs.YtpjjooiamdfmfaaGreatDoor.SortSwap Go.Proofs.YtpjjooiamdfmfaaGreatDoor.SortIns Go.Proofs.YtpjjooiamdfmfaaGreatDoor.TreeFn Go.Proofs.YtpjjooiamdfmfaaGreatDoor.TreeDel Go.Proofs.YtpjjooiamdfmfaaGreatDoor.NodeRes Go.Proofs.YtpjjooiamdfmfaaGreatDoor.TreeRef Go.Proofs.YtpjjooiamdfmfaaGreatDoor.MapS

def nodeP (l : List It) (p : ByteArray) : Option Nd := (findP l p).map (·.2)
theorem find_more {l : List It} {k : Nat} (h : k < l.length) (p : ByteArray) : findP (l.take (k + 1)) p = (findP (l.take k) p).or (if isAt p l[k] = true then some l[k] else none) := by
  rw [List.take_succ_eq_append_getElem h]
  unfold findP
  rw [List.find?_append]
  congr 1
  rw [List.find?_singleton]
theorem node_had {l : List It} {k : Nat} (h : k < l.length) {n : Nd} (hn : nodeP (l.take k) l[k].1 = some n) (p : ByteArray) : nodeP (l.take k) p = nodeP (l.take (k + 1)) p := by
  unfold nodeP at *
  rw [find_more h]
  cases hf : findP (l.take k) p with
  | some y => rfl
  | none =>
    by_cases hi : isAt p l[k] = true
    · rw [isAt_eq hi, hf] at hn
      cases hn
    · rw [if_neg hi]; rfl
theorem node_new {l : List It} {k : Nat} (h : k < l.length) (hn : nodeP (l.take k) l[k].1 = none) (p : ByteArray) : (if p = l[k].1 then some l[k].2 else nodeP (l.take k) p) = nodeP (l.take (k + 1)) p := by
  unfold nodeP at *
  rw [find_more h]
  by_cases hp : p = l[k].1
  · rw [if_pos hp]
    subst hp
    rw [isAt_self, if_pos rfl]
    cases hf : findP (l.take k) l[k].1 with
    | some y => rw [hf] at hn; cases hn
    | none => rfl
  · rw [if_neg hp, if_neg (fun e => hp (isAt_eq e).symm)]
    cases findP (l.take k) p <;> rfl
theorem zeroN (w : World) : (zeroValue 31).run Tryz.prog w = .ok (aggN z7) w := by kernel_rfl
set_option maxHeartbeats 8000000 in
set_option maxRecDepth 100000 in
theorem nodes_any (l : List It) (A : Option Addr) (c : Nat) (W : World) (hl : ItemC W A l) :
    Calls Tryz.prog 49 #[.slice A l.length c] W fun e w' => ∃ b, e = .returned (.map (some b)) ∧ W.heap.size ≤ b ∧ MapF aggN w' b (nodeP l) ∧ Below W.heap.size W w' := by
  have HL := Lib.hid hl
  have l1 := hl.2.1
  clear hl
  have HM0 := Lib.hid (MapF.made aggN W)
  have HB0 : Hid (Below W.heap.size W (W.alloc (.map #[] 0))) := Lib.hid (below_one W _)
  go_enter Tryz.func49, Tryz.ntmps49
  go_wp2_with (rw [show (Instr.makeMap 65 none).run Tryz.prog W = .ok (.map (some W.heap.size)) (W.alloc (.map #[] 0)) from rfl])
  generalize W.alloc (.map #[] 0) = U at *
  generalize hbm : W.heap.size = bm at *
  go_loopw [11] (fun v wr => ∃ k : Nat, k ≤ l.length ∧ v = .int .i64 k ∧ Hid (MapF aggN wr bm (nodeP (l.take k))) ∧ Hid (Below bm W wr)) (fun v _ => l.length - (intOf v).toNat)
  case atStart => exact ⟨0, by omega, rfl, HM0, HB0⟩
  case round =>
    clear HM0 HB0
    obtain ⟨k, hk, rfl, HM, HB⟩ := hrel
    by_cases hlt : k < l.length
    · obtain ⟨ad, rfl, e0, e1, e2, e3, e4, e5, e6, e7⟩ := item_at (Kd.C_below HL.out (by rw [hbm]; exact HB.out)) hlt
      have hltI : (k : Int) < l.length := by omega
      have HH := Lib.hid (fun n => node_had (l := l) (k := k) hlt (n := n))
      have HN := Lib.hid (node_new (l := l) (k := k) hlt)
      generalize l[k] = x at *
      obtain ⟨x0, x1, x2, x3, x4, x5, x6, x7⟩ := x
      simp only at e0 e1 e2 e3 e4 e5 e6 e7
      have c0 : (wr.alloc (.cells #[.string x0, .int .i64 x1, .int .u32 x2, .int .u32 x3, .int .u32 x4, .int .i64 x5, .int .i64 x6, .string x7] 33)).cell? ⟨wr.heap.size, 0, none⟩ = some (.string x0) := by rw [cell_of (heap_new wr _)]; rfl
      have c1 : (wr.alloc (.cells #[.string x0, .int .i64 x1, .int .u32 x2, .int .u32 x3, .int .u32 x4, .int .i64 x5, .int .i64 x6, .string x7] 33)).cell? ⟨wr.heap.size, 1, none⟩ = some (.int .i64 x1) := by rw [cell_of (heap_new wr _)]; rfl
      have c2 : (wr.alloc (.cells #[.string x0, .int .i64 x1, .int .u32 x2, .int .u32 x3, .int .u32 x4, .int .i64 x5, .int .i64 x6, .string x7] 33)).cell? ⟨wr.heap.size, 2, none⟩ = some (.int .u32 x2) := by rw [cell_of (heap_new wr _)]; rfl
      have c3 : (wr.alloc (.cells #[.string x0, .int .i64 x1, .int .u32 x2, .int .u32 x3, .int .u32 x4, .int .i64 x5, .int .i64 x6, .string x7] 33)).cell? ⟨wr.heap.size, 3, none⟩ = some (.int .u32 x3) := by rw [cell_of (heap_new wr _)]; rfl
      have c4 : (wr.alloc (.cells #[.string x0, .int .i64 x1, .int .u32 x2, .int .u32 x3, .int .u32 x4, .int .i64 x5, .int .i64 x6, .string x7] 33)).cell? ⟨wr.heap.size, 4, none⟩ = some (.int .u32 x4) := by rw [cell_of (heap_new wr _)]; rfl
      have c5 : (wr.alloc (.cells #[.string x0, .int .i64 x1, .int .u32 x2, .int .u32 x3, .int .u32 x4, .int .i64 x5, .int .i64 x6, .string x7] 33)).cell? ⟨wr.heap.size, 5, none⟩ = some (.int .i64 x5) := by rw [cell_of (heap_new wr _)]; rfl
      have c6 : (wr.alloc (.cells #[.string x0, .int .i64 x1, .int .u32 x2, .int .u32 x3, .int .u32 x4, .int .i64 x5, .int .i64 x6, .string x7] 33)).cell? ⟨wr.heap.size, 6, none⟩ = some (.int .i64 x6) := by rw [cell_of (heap_new wr _)]; rfl
      have c7 : (wr.alloc (.cells #[.string x0, .int .i64 x1, .int .u32 x2, .int .u32 x3, .int .u32 x4, .int .i64 x5, .int .i64 x6, .string x7] 33)).cell? ⟨wr.heap.size, 7, none⟩ = some (.string x7) := by rw [cell_of (heap_new wr _)]; rfl
      have hb2 := below_one wr (.cells #[.string x0, .int .i64 x1, .int .u32 x2, .int .u32 x3, .int .u32 x4, .int .i64 x5, .int .i64 x6, .string x7] 33)
      have HM2 := Lib.hid (HM.out.below hb2)
      have HB2 : Hid (Below bm W (wr.alloc (.cells #[.string x0, .int .i64 x1, .int .u32 x2, .int .u32 x3, .int .u32 x4, .int .i64 x5, .int .i64 x6, .string x7] 33))) := Lib.hid (by subst hbm; exact below_next_ HB.out hb2)
      clear hb2
      cases hf : nodeP (l.take k) x0 with
      | some n =>
        obtain ⟨n0, n1, n2, n3, n4, n5, n6⟩ := n
        have hq : (Instr.lookup 65 (.map (some bm)) (.string x0) true).run Tryz.prog (wr.alloc (.cells #[.string x0, .int .i64 x1, .int .u32 x2, .int .u32 x3, .int .u32 x4, .int .i64 x5, .int .i64 x6, .string x7] 33)) = .ok (.tuple #[.agg #[.int .i64 n0, .int .u32 n1, .int .u32 n2, .int .u32 n3, .int .i64 n4, .int .i64 n5, .string n6], .bool true]) (wr.alloc (.cells #[.string x0, .int .i64 x1, .int .u32 x2, .int .u32 x3, .int .u32 x4, .int .i64 x5, .int .i64 x6, .string x7] 33)) := by
          have := HM2.out.ask (t := 65) (kT := 9) (eT := 31) (by kernel_rfl) (by kernel_rfl) (zeroN _) x0 true
          rw [hf] at this
          exact this
        have hb3 := below_one (wr.alloc (.cells #[.string x0, .int .i64 x1, .int .u32 x2, .int .u32 x3, .int .u32 x4, .int .i64 x5, .int .i64 x6, .string x7] 33)) (.cells #[.int .i64 n0, .int .u32 n1, .int .u32 n2, .int .u32 n3, .int .i64 n4, .int .i64 n5, .string n6] 31)
        have HM3 := Lib.hid ((HM2.out.below hb3).congr (HH.out _ hf))
        have HB3 : Hid (Below bm W ((wr.alloc (.cells #[.string x0, .int .i64 x1, .int .u32 x2, .int .u32 x3, .int .u32 x4, .int .i64 x5, .int .i64 x6, .string x7] 33)).alloc (.cells #[.int .i64 n0, .int .u32 n1, .int .u32 n2, .int .u32 n3, .int .i64 n4, .int .i64 n5, .string n6] 31))) := Lib.hid (by subst hbm; exact below_next_ HB2.out hb3)
        clear hb3 hf HH HN HM2
        go_wp2
        go_roundw
        case rel => exact ⟨k + 1, by omega, by go_num, HM3, HB3⟩
        case measure => simp [intOf]; omega
      | none =>
        have hq : (Instr.lookup 65 (.map (some bm)) (.string x0) true).run Tryz.prog (wr.alloc (.cells #[.string x0, .int .i64 x1, .int .u32 x2, .int .u32 x3, .int .u32 x4, .int .i64 x5, .int .i64 x6, .string x7] 33)) = .ok (.tuple #[.agg #[.int .i64 0, .int .u32 0, .int .u32 0, .int .u32 0, .int .i64 0, .int .i64 0, .string ByteArray.empty], .bool false]) (wr.alloc (.cells #[.string x0, .int .i64 x1, .int .u32 x2, .int .u32 x3, .int .u32 x4, .int .i64 x5, .int .i64 x6, .string x7] 33)) := by
          have := HM2.out.ask (t := 65) (kT := 9) (eT := 31) (by kernel_rfl) (by kernel_rfl) (zeroN _) x0 true
          rw [hf] at this
          exact this
        have hb3 := below_one (wr.alloc (.cells #[.string x0, .int .i64 x1, .int .u32 x2, .int .u32 x3, .int .u32 x4, .int .i64 x5, .int .i64 x6, .string x7] 33)) (.cells #[.int .i64 0, .int .u32 0, .int .u32 0, .int .u32 0, .int .i64 0, .int .i64 0, .string ByteArray.empty] 31)
        have HM3 := Lib.hid (HM2.out.below hb3)
        have HB3 : Hid (Below bm W ((wr.alloc (.cells #[.string x0, .int .i64 x1, .int .u32 x2, .int .u32 x3, .int .u32 x4, .int .i64 x5, .int .i64 x6, .string x7] 33)).alloc (.cells #[.int .i64 0, .int .u32 0, .int .u32 0, .int .u32 0, .int .i64 0, .int .i64 0, .string ByteArray.empty] 31))) := Lib.hid (by subst hbm; exact below_next_ HB2.out hb3)
        have d0 : ((wr.alloc (.cells #[.string x0, .int .i64 x1, .int .u32 x2, .int .u32 x3, .int .u32 x4, .int .i64 x5, .int .i64 x6, .string x7] 33)).alloc (.cells #[.int .i64 0, .int .u32 0, .int .u32 0, .int .u32 0, .int .i64 0, .int .i64 0, .string ByteArray.empty] 31)).cell? ⟨wr.heap.size, 0, none⟩ = some (.string x0) := by rw [cell_of ((heap_alloc_old _ _ (by simp)).trans (heap_new wr _))]; rfl
        have d1 : ((wr.alloc (.cells #[.string x0, .int .i64 x1, .int .u32 x2, .int .u32 x3, .int .u32 x4, .int .i64 x5, .int .i64 x6, .string x7] 33)).alloc (.cells #[.int .i64 0, .int .u32 0, .int .u32 0, .int .u32 0, .int .i64 0, .int .i64 0, .string ByteArray.empty] 31)).cell? ⟨wr.heap.size, 1, none⟩ = some (.int .i64 x1) := by rw [cell_of ((heap_alloc_old _ _ (by simp)).trans (heap_new wr _))]; rfl
        have d2 : ((wr.alloc (.cells #[.string x0, .int .i64 x1, .int .u32 x2, .int .u32 x3, .int .u32 x4, .int .i64 x5, .int .i64 x6, .string x7] 33)).alloc (.cells #[.int .i64 0, .int .u32 0, .int .u32 0, .int .u32 0, .int .i64 0, .int .i64 0, .string ByteArray.empty] 31)).cell? ⟨wr.heap.size, 2, none⟩ = some (.int .u32 x2) := by rw [cell_of ((heap_alloc_old _ _ (by simp)).trans (heap_new wr _))]; rfl
        have d3 : ((wr.alloc (.cells #[.string x0, .int .i64 x1, .int .u32 x2, .int .u32 x3, .int .u32 x4, .int .i64 x5, .int .i64 x6, .string x7] 33)).alloc (.cells #[.int .i64 0, .int .u32 0, .int .u32 0, .int .u32 0, .int .i64 0, .int .i64 0, .string ByteArray.empty] 31)).cell? ⟨wr.heap.size, 3, none⟩ = some (.int .u32 x3) := by rw [cell_of ((heap_alloc_old _ _ (by simp)).trans (heap_new wr _))]; rfl
        have d4 : ((wr.alloc (.cells #[.string x0, .int .i64 x1, .int .u32 x2, .int .u32 x3, .int .u32 x4, .int .i64 x5, .int .i64 x6, .string x7] 33)).alloc (.cells #[.int .i64 0, .int .u32 0, .int .u32 0, .int .u32 0, .int .i64 0, .int .i64 0, .string ByteArray.empty] 31)).cell? ⟨wr.heap.size, 4, none⟩ = some (.int .u32 x4) := by rw [cell_of ((heap_alloc_old _ _ (by simp)).trans (heap_new wr _))]; rfl
        have d5 : ((wr.alloc (.cells #[.string x0, .int .i64 x1, .int .u32 x2, .int .u32 x3, .int .u32 x4, .int .i64 x5, .int .i64 x6, .string x7] 33)).alloc (.cells #[.int .i64 0, .int .u32 0, .int .u32 0, .int .u32 0, .int .i64 0, .int .i64 0, .string ByteArray.empty] 31)).cell? ⟨wr.heap.size, 5, none⟩ = some (.int .i64 x5) := by rw [cell_of ((heap_alloc_old _ _ (by simp)).trans (heap_new wr _))]; rfl
        have d6 : ((wr.alloc (.cells #[.string x0, .int .i64 x1, .int .u32 x2, .int .u32 x3, .int .u32 x4, .int .i64 x5, .int .i64 x6, .string x7] 33)).alloc (.cells #[.int .i64 0, .int .u32 0, .int .u32 0, .int .u32 0, .int .i64 0, .int .i64 0, .string ByteArray.empty] 31)).cell? ⟨wr.heap.size, 6, none⟩ = some (.int .i64 x6) := by rw [cell_of ((heap_alloc_old _ _ (by simp)).trans (heap_new wr _))]; rfl
        have d7 : ((wr.alloc (.cells #[.string x0, .int .i64 x1, .int .u32 x2, .int .u32 x3, .int .u32 x4, .int .i64 x5, .int .i64 x6, .string x7] 33)).alloc (.cells #[.int .i64 0, .int .u32 0, .int .u32 0, .int .u32 0, .int .i64 0, .int .i64 0, .string ByteArray.empty] 31)).cell? ⟨wr.heap.size, 7, none⟩ = some (.string x7) := by rw [cell_of ((heap_alloc_old _ _ (by simp)).trans (heap_new wr _))]; rfl
        obtain ⟨w5, h5, hm5, hg5⟩ := HM3.out.store (t := 65) (kT := 9) (eT := 31) (by kernel_rfl) (by kernel_rfl) x0 (x1, x2, x3, x4, x5, x6, x7)
        have h6 : (Instr.mapUpdate 65 (.map (some bm)) (.string x0) (.agg #[.int .i64 x1, .int .u32 x2, .int .u32 x3, .int .u32 x4, .int .i64 x5, .int .i64 x6, .string x7])).run Tryz.prog ((wr.alloc (.cells #[.string x0, .int .i64 x1, .int .u32 x2, .int .u32 x3, .int .u32 x4, .int .i64 x5, .int .i64 x6, .string x7] 33)).alloc (.cells #[.int .i64 0, .int .u32 0, .int .u32 0, .int .u32 0, .int .i64 0, .int .i64 0, .string ByteArray.empty] 31)) = .ok () w5 := h5
        have HM5 := Lib.hid (hm5.congr (HN.out hf))
        have HB5 : Hid (Below bm W w5) := Lib.hid (by subst hbm; exact below_row HB3.out hg5 (Nat.le_refl _))
        clear hb3 hf HH HN HM2 HM3 hm5 hg5 HB3 h5
        go_wp2
        go_roundw
        case rel => exact ⟨k + 1, by omega, by go_num, HM5, HB5⟩
        case measure => simp [intOf]; omega
    · have HM2 : Hid (MapF aggN wr bm (nodeP l)) := Lib.hid (by have := HM.out; rw [List.take_of_length_le (by omega)] at this; exact this)
      clear HM
      go_wp2
      go_ret
      subst hbm
      exact ⟨_, rfl, Nat.le_refl _, HM2.out, HB.out⟩
end Go.Proofs.YtpjjooiamdfmfaaGreatDoor.TreeNodes
