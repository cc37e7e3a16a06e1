/- the map of a list's nodes. -/
import Derived.Test.YtibmfjacfbpfgaaGreatDoorTreeRight
import Derived.Test.YtibmfjacfbpfgaaGreatDoorMapA
set_option linter.unusedVariables false
set_option linter.unusedSimpArgs false
namespace Go.Proofs.YtibmfjacfbpfgaaGreatDoor.TreeNodes
open Go.RowKit YtibmfjacfbpfgaaGreatDoorW.PrintWords YtibmfjacfbpfgaaGreatDoorW.PrintLast YtibmfjacfbpfgaaGreatDoorW.PrintMore YtibmfjacfbpfgaaGreatDoor.Item Own TreeLaw NameLaw NameWalk NameOrd NameRef NameUse SortSwap SortIns TreeFn TreeDel NodeRes TreeRef MapS
def nodeP (l : List It) (p : ByteArray) : Option Nd := (findP l p).map (·.2)
theorem find_more {l : List It} {k : Nat} (h : k < l.length) (p : ByteArray) : findP (l.take (k + 1)) p = (findP (l.take k) p).or (if isAt p l[k] = true then some l[k] else none) := by
 rw [List.take_succ_eq_append_getElem h]
 unfold findP
 rw [List.find?_append]
 congr 1
 rw [List.find?_singleton]
theorem node_had {l : List It} {k : Nat} (h : k < l.length) {n : Nd} (hn : nodeP (l.take k) l[k].1 = some n) (p : ByteArray) : nodeP (l.take k) p = nodeP (l.take (k + 1)) p := by
 unfold nodeP at *
 rw [find_more h]
 cases hf : findP (l.take k) p with
 | some y => rfl
 | none =>
  by_cases hi : isAt p l[k] = true
  ·
   rw [isAt_eq hi, hf] at hn
   cases hn
  ·
   rw [if_neg hi]; rfl
theorem node_new {l : List It} {k : Nat} (h : k < l.length) (hn : nodeP (l.take k) l[k].1 = none) (p : ByteArray) : (if p = l[k].1 then some l[k].2 else nodeP (l.take k) p) = nodeP (l.take (k + 1)) p := by
 unfold nodeP at *
 rw [find_more h]
 by_cases hp : p = l[k].1
 ·
  rw [if_pos hp]
  subst hp
  rw [isAt_self, if_pos rfl]
  cases hf : findP (l.take k) l[k].1 with
  | some y => rw [hf] at hn; cases hn
  | none => rfl
 ·
  rw [if_neg hp, if_neg (fun e => hp (isAt_eq e).symm)]
  cases findP (l.take k) p <;> rfl
theorem zeroN (w : World) : (zeroValue 34).run Tryz.prog w = .ok (aggN z7) w := by kernel_rfl
set_option maxHeartbeats 8000000 in
set_option maxRecDepth 100000 in
theorem nodes_any (l : List It) (A : Option Addr) (c : Nat) (W : World) (hl : ItemC W A l) :
  Calls Tryz.prog 80 #[.slice A l.length c] W fun e w' => ∃ b, e = .returned (.map (some b)) ∧ W.heap.size ≤ b ∧ MapF aggN w' b (nodeP l) ∧ Below W.heap.size W w' := by
 have HL := Lib.hid hl
 have l1 := hl.2.1
 clear hl
 have HM0 := Lib.hid (MapF.made aggN W)
 have HB0 : Hid (Below W.heap.size W (W.alloc (.map #[] 0))) := Lib.hid (below_one W _)
 go_enter Tryz.func80, Tryz.ntmps80
 go_wp2_with (rw [show (Instr.makeMap 125 none).run Tryz.prog W = .ok (.map (some W.heap.size)) (W.alloc (.map #[] 0)) from rfl])
 generalize W.alloc (.map #[] 0) = U at *
 generalize hbm : W.heap.size = bm at *
 go_loopw [11] (fun v wr => ∃ k : Nat, k ≤ l.length ∧ v = .int .i64 k ∧ Hid (MapF aggN wr bm (nodeP (l.take k))) ∧ Hid (Below bm W wr)) (fun v _ => l.length - (intOf v).toNat)
 case atStart => exact ⟨0, by omega, rfl, HM0, HB0⟩
 case round =>
  clear HM0 HB0
  obtain ⟨k, hk, rfl, HM, HB⟩ := hrel
  by_cases hlt : k < l.length
  ·
   obtain ⟨ad, rfl, e0, e1, e2, e3, e4, e5, e6, e7⟩ := item_at (Kd.C_below HL.out (by rw [hbm]; exact HB.out)) hlt
   have hltI : (k : Int) < l.length := by omega
   have HH := Lib.hid (fun n => node_had (l := l) (k := k) hlt (n := n))
   have HN := Lib.hid (node_new (l := l) (k := k) hlt)
   generalize l[k] = x at *
   obtain ⟨x0, x1, x2, x3, x4, x5, x6, x7⟩ := x
   simp only at e0 e1 e2 e3 e4 e5 e6 e7
   have c0 : (wr.alloc (.cells #[.string x0, .int .i64 x1, .int .u32 x2, .int .u32 x3, .int .u32 x4, .int .i64 x5, .int .i64 x6, .string x7] 77)).cell? ⟨wr.heap.size, 0, none⟩ = some (.string x0) := by rw [cell_of (heap_new wr _)]; rfl
   have c1 : (wr.alloc (.cells #[.string x0, .int .i64 x1, .int .u32 x2, .int .u32 x3, .int .u32 x4, .int .i64 x5, .int .i64 x6, .string x7] 77)).cell? ⟨wr.heap.size, 1, none⟩ = some (.int .i64 x1) := by rw [cell_of (heap_new wr _)]; rfl
   have c2 : (wr.alloc (.cells #[.string x0, .int .i64 x1, .int .u32 x2, .int .u32 x3, .int .u32 x4, .int .i64 x5, .int .i64 x6, .string x7] 77)).cell? ⟨wr.heap.size, 2, none⟩ = some (.int .u32 x2) := by rw [cell_of (heap_new wr _)]; rfl
   have c3 : (wr.alloc (.cells #[.string x0, .int .i64 x1, .int .u32 x2, .int .u32 x3, .int .u32 x4, .int .i64 x5, .int .i64 x6, .string x7] 77)).cell? ⟨wr.heap.size, 3, none⟩ = some (.int .u32 x3) := by rw [cell_of (heap_new wr _)]; rfl
   have c4 : (wr.alloc (.cells #[.string x0, .int .i64 x1, .int .u32 x2, .int .u32 x3, .int .u32 x4, .int .i64 x5, .int .i64 x6, .string x7] 77)).cell? ⟨wr.heap.size, 4, none⟩ = some (.int .u32 x4) := by rw [cell_of (heap_new wr _)]; rfl
   have c5 : (wr.alloc (.cells #[.string x0, .int .i64 x1, .int .u32 x2, .int .u32 x3, .int .u32 x4, .int .i64 x5, .int .i64 x6, .string x7] 77)).cell? ⟨wr.heap.size, 5, none⟩ = some (.int .i64 x5) := by rw [cell_of (heap_new wr _)]; rfl
   have c6 : (wr.alloc (.cells #[.string x0, .int .i64 x1, .int .u32 x2, .int .u32 x3, .int .u32 x4, .int .i64 x5, .int .i64 x6, .string x7] 77)).cell? ⟨wr.heap.size, 6, none⟩ = some (.int .i64 x6) := by rw [cell_of (heap_new wr _)]; rfl
   have c7 : (wr.alloc (.cells #[.string x0, .int .i64 x1, .int .u32 x2, .int .u32 x3, .int .u32 x4, .int .i64 x5, .int .i64 x6, .string x7] 77)).cell? ⟨wr.heap.size, 7, none⟩ = some (.string x7) := by rw [cell_of (heap_new wr _)]; rfl
   have hb2 := below_one wr (.cells #[.string x0, .int .i64 x1, .int .u32 x2, .int .u32 x3, .int .u32 x4, .int .i64 x5, .int .i64 x6, .string x7] 77)
   have HM2 := Lib.hid (HM.out.below hb2)
   have HB2 : Hid (Below bm W (wr.alloc (.cells #[.string x0, .int .i64 x1, .int .u32 x2, .int .u32 x3, .int .u32 x4, .int .i64 x5, .int .i64 x6, .string x7] 77))) := Lib.hid (by subst hbm; exact below_next_ HB.out hb2)
   clear hb2
   cases hf : nodeP (l.take k) x0 with
   | some n =>
    obtain ⟨n0, n1, n2, n3, n4, n5, n6⟩ := n
    have hq : (Instr.lookup 125 (.map (some bm)) (.string x0) true).run Tryz.prog (wr.alloc (.cells #[.string x0, .int .i64 x1, .int .u32 x2, .int .u32 x3, .int .u32 x4, .int .i64 x5, .int .i64 x6, .string x7] 77)) = .ok (.tuple #[.agg #[.int .i64 n0, .int .u32 n1, .int .u32 n2, .int .u32 n3, .int .i64 n4, .int .i64 n5, .string n6], .bool true]) (wr.alloc (.cells #[.string x0, .int .i64 x1, .int .u32 x2, .int .u32 x3, .int .u32 x4, .int .i64 x5, .int .i64 x6, .string x7] 77)) := by
     have := HM2.out.ask (t := 125) (kT := 9) (eT := 34) (by kernel_rfl) (by kernel_rfl) (zeroN _) x0 true
     rw [hf] at this
     exact this
    have hb3 := below_one (wr.alloc (.cells #[.string x0, .int .i64 x1, .int .u32 x2, .int .u32 x3, .int .u32 x4, .int .i64 x5, .int .i64 x6, .string x7] 77)) (.cells #[.int .i64 n0, .int .u32 n1, .int .u32 n2, .int .u32 n3, .int .i64 n4, .int .i64 n5, .string n6] 34)
    have HM3 := Lib.hid ((HM2.out.below hb3).congr (HH.out _ hf))
    have HB3 : Hid (Below bm W ((wr.alloc (.cells #[.string x0, .int .i64 x1, .int .u32 x2, .int .u32 x3, .int .u32 x4, .int .i64 x5, .int .i64 x6, .string x7] 77)).alloc (.cells #[.int .i64 n0, .int .u32 n1, .int .u32 n2, .int .u32 n3, .int .i64 n4, .int .i64 n5, .string n6] 34))) := Lib.hid (by subst hbm; exact below_next_ HB2.out hb3)
    clear hb3 hf HH HN HM2
    go_wp2
    go_roundw
    case rel => exact ⟨k + 1, by omega, by go_num, HM3, HB3⟩
    case measure => simp [intOf]; omega
   | none =>
    have hq : (Instr.lookup 125 (.map (some bm)) (.string x0) true).run Tryz.prog (wr.alloc (.cells #[.string x0, .int .i64 x1, .int .u32 x2, .int .u32 x3, .int .u32 x4, .int .i64 x5, .int .i64 x6, .string x7] 77)) = .ok (.tuple #[.agg #[.int .i64 0, .int .u32 0, .int .u32 0, .int .u32 0, .int .i64 0, .int .i64 0, .string ByteArray.empty], .bool false]) (wr.alloc (.cells #[.string x0, .int .i64 x1, .int .u32 x2, .int .u32 x3, .int .u32 x4, .int .i64 x5, .int .i64 x6, .string x7] 77)) := by
     have := HM2.out.ask (t := 125) (kT := 9) (eT := 34) (by kernel_rfl) (by kernel_rfl) (zeroN _) x0 true
     rw [hf] at this
     exact this
    have hb3 := below_one (wr.alloc (.cells #[.string x0, .int .i64 x1, .int .u32 x2, .int .u32 x3, .int .u32 x4, .int .i64 x5, .int .i64 x6, .string x7] 77)) (.cells #[.int .i64 0, .int .u32 0, .int .u32 0, .int .u32 0, .int .i64 0, .int .i64 0, .string ByteArray.empty] 34)
    have HM3 := Lib.hid (HM2.out.below hb3)
    have HB3 : Hid (Below bm W ((wr.alloc (.cells #[.string x0, .int .i64 x1, .int .u32 x2, .int .u32 x3, .int .u32 x4, .int .i64 x5, .int .i64 x6, .string x7] 77)).alloc (.cells #[.int .i64 0, .int .u32 0, .int .u32 0, .int .u32 0, .int .i64 0, .int .i64 0, .string ByteArray.empty] 34))) := Lib.hid (by subst hbm; exact below_next_ HB2.out hb3)
    have d0 : ((wr.alloc (.cells #[.string x0, .int .i64 x1, .int .u32 x2, .int .u32 x3, .int .u32 x4, .int .i64 x5, .int .i64 x6, .string x7] 77)).alloc (.cells #[.int .i64 0, .int .u32 0, .int .u32 0, .int .u32 0, .int .i64 0, .int .i64 0, .string ByteArray.empty] 34)).cell? ⟨wr.heap.size, 0, none⟩ = some (.string x0) := by rw [cell_of ((heap_alloc_old _ _ (by simp)).trans (heap_new wr _))]; rfl
    have d1 : ((wr.alloc (.cells #[.string x0, .int .i64 x1, .int .u32 x2, .int .u32 x3, .int .u32 x4, .int .i64 x5, .int .i64 x6, .string x7] 77)).alloc (.cells #[.int .i64 0, .int .u32 0, .int .u32 0, .int .u32 0, .int .i64 0, .int .i64 0, .string ByteArray.empty] 34)).cell? ⟨wr.heap.size, 1, none⟩ = some (.int .i64 x1) := by rw [cell_of ((heap_alloc_old _ _ (by simp)).trans (heap_new wr _))]; rfl
    have d2 : ((wr.alloc (.cells #[.string x0, .int .i64 x1, .int .u32 x2, .int .u32 x3, .int .u32 x4, .int .i64 x5, .int .i64 x6, .string x7] 77)).alloc (.cells #[.int .i64 0, .int .u32 0, .int .u32 0, .int .u32 0, .int .i64 0, .int .i64 0, .string ByteArray.empty] 34)).cell? ⟨wr.heap.size, 2, none⟩ = some (.int .u32 x2) := by rw [cell_of ((heap_alloc_old _ _ (by simp)).trans (heap_new wr _))]; rfl
    have d3 : ((wr.alloc (.cells #[.string x0, .int .i64 x1, .int .u32 x2, .int .u32 x3, .int .u32 x4, .int .i64 x5, .int .i64 x6, .string x7] 77)).alloc (.cells #[.int .i64 0, .int .u32 0, .int .u32 0, .int .u32 0, .int .i64 0, .int .i64 0, .string ByteArray.empty] 34)).cell? ⟨wr.heap.size, 3, none⟩ = some (.int .u32 x3) := by rw [cell_of ((heap_alloc_old _ _ (by simp)).trans (heap_new wr _))]; rfl
    have d4 : ((wr.alloc (.cells #[.string x0, .int .i64 x1, .int .u32 x2, .int .u32 x3, .int .u32 x4, .int .i64 x5, .int .i64 x6, .string x7] 77)).alloc (.cells #[.int .i64 0, .int .u32 0, .int .u32 0, .int .u32 0, .int .i64 0, .int .i64 0, .string ByteArray.empty] 34)).cell? ⟨wr.heap.size, 4, none⟩ = some (.int .u32 x4) := by rw [cell_of ((heap_alloc_old _ _ (by simp)).trans (heap_new wr _))]; rfl
    have d5 : ((wr.alloc (.cells #[.string x0, .int .i64 x1, .int .u32 x2, .int .u32 x3, .int .u32 x4, .int .i64 x5, .int .i64 x6, .string x7] 77)).alloc (.cells #[.int .i64 0, .int .u32 0, .int .u32 0, .int .u32 0, .int .i64 0, .int .i64 0, .string ByteArray.empty] 34)).cell? ⟨wr.heap.size, 5, none⟩ = some (.int .i64 x5) := by rw [cell_of ((heap_alloc_old _ _ (by simp)).trans (heap_new wr _))]; rfl
    have d6 : ((wr.alloc (.cells #[.string x0, .int .i64 x1, .int .u32 x2, .int .u32 x3, .int .u32 x4, .int .i64 x5, .int .i64 x6, .string x7] 77)).alloc (.cells #[.int .i64 0, .int .u32 0, .int .u32 0, .int .u32 0, .int .i64 0, .int .i64 0, .string ByteArray.empty] 34)).cell? ⟨wr.heap.size, 6, none⟩ = some (.int .i64 x6) := by rw [cell_of ((heap_alloc_old _ _ (by simp)).trans (heap_new wr _))]; rfl
    have d7 : ((wr.alloc (.cells #[.string x0, .int .i64 x1, .int .u32 x2, .int .u32 x3, .int .u32 x4, .int .i64 x5, .int .i64 x6, .string x7] 77)).alloc (.cells #[.int .i64 0, .int .u32 0, .int .u32 0, .int .u32 0, .int .i64 0, .int .i64 0, .string ByteArray.empty] 34)).cell? ⟨wr.heap.size, 7, none⟩ = some (.string x7) := by rw [cell_of ((heap_alloc_old _ _ (by simp)).trans (heap_new wr _))]; rfl
    obtain ⟨w5, h5, hm5, hg5⟩ := HM3.out.store (t := 125) (kT := 9) (eT := 34) (by kernel_rfl) (by kernel_rfl) x0 (x1, x2, x3, x4, x5, x6, x7)
    have h6 : (Instr.mapUpdate 125 (.map (some bm)) (.string x0) (.agg #[.int .i64 x1, .int .u32 x2, .int .u32 x3, .int .u32 x4, .int .i64 x5, .int .i64 x6, .string x7])).run Tryz.prog ((wr.alloc (.cells #[.string x0, .int .i64 x1, .int .u32 x2, .int .u32 x3, .int .u32 x4, .int .i64 x5, .int .i64 x6, .string x7] 77)).alloc (.cells #[.int .i64 0, .int .u32 0, .int .u32 0, .int .u32 0, .int .i64 0, .int .i64 0, .string ByteArray.empty] 34)) = .ok () w5 := h5
    have HM5 := Lib.hid (hm5.congr (HN.out hf))
    have HB5 : Hid (Below bm W w5) := Lib.hid (by subst hbm; exact below_row HB3.out hg5 (Nat.le_refl _))
    clear hb3 hf HH HN HM2 HM3 hm5 hg5 HB3 h5
    go_wp2
    go_roundw
    case rel => exact ⟨k + 1, by omega, by go_num, HM5, HB5⟩
    case measure => simp [intOf]; omega
  ·
   have HM2 : Hid (MapF aggN wr bm (nodeP l)) := Lib.hid (by have := HM.out; rw [List.take_of_length_le (by omega)] at this; exact this)
   clear HM
   go_wp2
   go_ret
   subst hbm
   exact ⟨_, rfl, Nat.le_refl _, HM2.out, HB.out⟩
end Go.Proofs.YtibmfjacfbpfgaaGreatDoor.TreeNodes
/- tree.Right. -/
namespace Go.Proofs.YtibmfjacfbpfgaaGreatDoor.TreeTright
open Go.RowKit YtibmfjacfbpfgaaGreatDoorW.PrintWords YtibmfjacfbpfgaaGreatDoorW.PrintLast YtibmfjacfbpfgaaGreatDoorW.PrintMore YtibmfjacfbpfgaaGreatDoor.Item Own TreeLaw NameLaw NameWalk NameOrd NameRef NameUse SortSwap SortIns TreeFn TreeDel NodeRes TreeRef TreeRight MapS TreeNodes
theorem r16_no1 {t : List It} {k : Nat} {x : It} (h : t[k]? = some x) (hf : stepOk t k x = false) : right16 t = false := by
 unfold right16; rw [rightB_no h hf, Bool.and_false]
theorem r16_no2 {t : List It} {k : Nat} {x : It} (h : t[k]? = some x) (hf : noDirData x = false) : right16 t = false := by
 unfold right16
 have : t.all noDirData = false := by
  cases e : t.all noDirData with
  | false => rfl
  | true => rw [(List.all_eq_true.1 e) x (List.mem_of_getElem? h)] at hf; cases hf
 rw [this, Bool.false_and]
def SoFar2 (t : List It) (k : Nat) : Prop := SoFar t k ∧ ∀ j x, j < k → t[j]? = some x → noDirData x = true
theorem soFar2_end {t : List It} {k : Nat} (h : SoFar2 t k) (hk : t.length ≤ k) : right16 t = true := by
 unfold right16
 rw [soFar_end h.1 hk, Bool.and_true, List.all_eq_true]
 intro x hx
 obtain ⟨j, hj, e⟩ := List.mem_iff_getElem.1 hx
 exact h.2 j x (by omega) (by rw [List.getElem?_eq_getElem hj, e])
theorem soFar2_next {t : List It} {k : Nat} {x : It} (h : SoFar2 t k) (hx : t[k]? = some x) (hs : stepOk t k x = true) (hd : noDirData x = true) : SoFar2 t (k + 1) := by
 refine ⟨soFar_next h.1 hx hs, ?_⟩
 intro j y hj hy
 by_cases e : j = k
 ·
  subst e
  rw [hx] at hy
  injection hy with hy
  rw [← hy]; exact hd
 ·
  exact h.2 j y (by omega) hy
theorem kind_node (l : List It) (p : ByteArray) (h : p.data.toList ≠ []) : kindOf l p = ((nodeP l p).getD z7).1 := by
 unfold kindOf nodeP
 rw [if_neg h]
 cases findP l p <;> rfl
theorem emp_t {s : ByteArray} (h : s.data.toList = []) : s.toList.isEmpty = true := by rw [Lib.toList_data, h]; rfl
theorem emp_f {s : ByteArray} (h : ¬ s.data.toList = []) : s.toList.isEmpty = false := by
 rw [Lib.toList_data]
 cases e : s.data.toList with
 | nil => exact absurd e h
 | cons => rfl
theorem emq_t {s : ByteArray} (h : s.data.toList = []) : (s.toList == []) = true := by rw [Lib.toList_data, h]; rfl
theorem emq_f {s : ByteArray} (h : ¬ s.data.toList = []) : (s.toList == []) = false := by
 rw [Lib.toList_data]
 cases e : s.data.toList with
 | nil => exact absurd e h
 | cons => rfl
set_option maxHeartbeats 16000000 in
set_option maxRecDepth 100000 in
theorem tright_any (l : List It) (A : Option Addr) (c : Nat) (W : World) (hg : Glob W) (hl : ItemC W A l) (hn : l.length ≤ 1000000) (hsz : ∀ x ∈ l, x.1.size ≤ 10000) :
  Calls Tryz.prog 77 #[.slice A l.length c] W fun e w' => e = .returned (.bool (right16 l)) ∧ Below W.heap.size W w' := by
 have HZ := Lib.hid hsz
 have l1 := hl.2.1
 have HG := Lib.hid hg
 have HL0 := Lib.hid hl
 have HC := Lib.hid (nodes_any l A c W hl)
 clear hl hsz hg
 have HS0 : Hid (SoFar2 l 0) := Lib.hid ⟨fun j x hj => absurd hj (Nat.not_lt_zero _), fun j x hj => absurd hj (Nat.not_lt_zero _)⟩
 go_enter Tryz.func77, Tryz.ntmps77
 go_wp2_with fail
 refine HC.out.mono ?_
 rintro e U ⟨bm, rfl, _, hm, hbU⟩
 have HM := Lib.hid hm
 have HBU := Lib.hid hbU
 have HL := Lib.hid (Kd.C_below HL0.out hbU)
 have HGU := Lib.hid (HG.out.below hbU)
 clear HC HL0 hm hbU
 go_wp2
 go_loopw [15] (fun v wr => ∃ k : Nat, k ≤ l.length ∧ v = .int .i64 k ∧ Hid (SoFar2 l k) ∧ Hid (Below U.heap.size U wr)) (fun v _ => l.length - (intOf v).toNat)
 case atStart => exact ⟨0, by omega, rfl, HS0, Lib.hid (Below.refl _ _)⟩
 case round =>
  clear HS0
  obtain ⟨k, hk, rfl, HS, HB⟩ := hrel
  by_cases hlt : k < l.length
  ·
   obtain ⟨ad, rfl, e0, e1, e2, e3, e4, e5, e6, e7⟩ := item_at (Kd.C_below HL.out HB.out) hlt
   have hltI : (k : Int) < l.length := by omega
   have hx : l[k]? = some l[k] := List.getElem?_eq_getElem hlt
   have hm := HZ.out _ (List.getElem_mem hlt)
   generalize l[k] = x at *
   obtain ⟨x0, x1, x2, x3, x4, x5, x6, x7⟩ := x
   have HX := Lib.hid hx
   have HSX : Hid (x0.size ≤ 10000) := Lib.hid hm
   clear hx hm
   simp only at e0 e1 e2 e3 e4 e5 e6 e7
   have c0 : (wr.alloc (.cells #[.string x0, .int .i64 x1, .int .u32 x2, .int .u32 x3, .int .u32 x4, .int .i64 x5, .int .i64 x6, .string x7] 77)).cell? ⟨wr.heap.size, 0, none⟩ = some (.string x0) := by rw [cell_of (heap_new wr _)]; rfl
   have c1 : (wr.alloc (.cells #[.string x0, .int .i64 x1, .int .u32 x2, .int .u32 x3, .int .u32 x4, .int .i64 x5, .int .i64 x6, .string x7] 77)).cell? ⟨wr.heap.size, 1, none⟩ = some (.int .i64 x1) := by rw [cell_of (heap_new wr _)]; rfl
   have c2 : (wr.alloc (.cells #[.string x0, .int .i64 x1, .int .u32 x2, .int .u32 x3, .int .u32 x4, .int .i64 x5, .int .i64 x6, .string x7] 77)).cell? ⟨wr.heap.size, 2, none⟩ = some (.int .u32 x2) := by rw [cell_of (heap_new wr _)]; rfl
   have c3 : (wr.alloc (.cells #[.string x0, .int .i64 x1, .int .u32 x2, .int .u32 x3, .int .u32 x4, .int .i64 x5, .int .i64 x6, .string x7] 77)).cell? ⟨wr.heap.size, 3, none⟩ = some (.int .u32 x3) := by rw [cell_of (heap_new wr _)]; rfl
   have c4 : (wr.alloc (.cells #[.string x0, .int .i64 x1, .int .u32 x2, .int .u32 x3, .int .u32 x4, .int .i64 x5, .int .i64 x6, .string x7] 77)).cell? ⟨wr.heap.size, 4, none⟩ = some (.int .u32 x4) := by rw [cell_of (heap_new wr _)]; rfl
   have c5 : (wr.alloc (.cells #[.string x0, .int .i64 x1, .int .u32 x2, .int .u32 x3, .int .u32 x4, .int .i64 x5, .int .i64 x6, .string x7] 77)).cell? ⟨wr.heap.size, 5, none⟩ = some (.int .i64 x5) := by rw [cell_of (heap_new wr _)]; rfl
   have c6 : (wr.alloc (.cells #[.string x0, .int .i64 x1, .int .u32 x2, .int .u32 x3, .int .u32 x4, .int .i64 x5, .int .i64 x6, .string x7] 77)).cell? ⟨wr.heap.size, 6, none⟩ = some (.int .i64 x6) := by rw [cell_of (heap_new wr _)]; rfl
   have c7 : (wr.alloc (.cells #[.string x0, .int .i64 x1, .int .u32 x2, .int .u32 x3, .int .u32 x4, .int .i64 x5, .int .i64 x6, .string x7] 77)).cell? ⟨wr.heap.size, 7, none⟩ = some (.string x7) := by rw [cell_of (heap_new wr _)]; rfl
   have hb2 := below_one wr (.cells #[.string x0, .int .i64 x1, .int .u32 x2, .int .u32 x3, .int .u32 x4, .int .i64 x5, .int .i64 x6, .string x7] 77)
   have HB2 := Lib.hid (below_next_ HB.out hb2)
   clear hb2
   have HV : Hid (stepOk l k (x0, x1, x2, x3, x4, x5, x6, x7) = stepV k (checkP x0) (checkD x0) (checkE x0) x0 x1 (orderT (l.getD (k - 1) (x0, x1, x2, x3, x4, x5, x6, x7)).1 x0) (kindOf l (parentT x0))) := Lib.hid rfl
   have HC := Lib.hid (check_next (w := (wr.alloc (.cells #[.string x0, .int .i64 x1, .int .u32 x2, .int .u32 x3, .int .u32 x4, .int .i64 x5, .int .i64 x6, .string x7] 77))) (Lib.hid (HGU.out.below HB2.out)) (Lib.hid (Below.refl _ _)) x0 (by have := HSX.out; omega))
   go_wp2_with fail
   generalize hw2 : wr.alloc (.cells #[.string x0, .int .i64 x1, .int .u32 x2, .int .u32 x3, .int .u32 x4, .int .i64 x5, .int .i64 x6, .string x7] 77) = w2 at *
   generalize hbx : wr.heap.size = bx at *
   refine HC.out.mono ?_
   rintro e wa ⟨rfl, hba⟩
   have c0 := pw_cell_below hba.out c0
   have c1 := pw_cell_below hba.out c1
   have c2 := pw_cell_below hba.out c2
   have c3 := pw_cell_below hba.out c3
   have c4 := pw_cell_below hba.out c4
   have c5 := pw_cell_below hba.out c5
   have c6 := pw_cell_below hba.out c6
   have c7 := pw_cell_below hba.out c7
   have HBa : Hid (Below U.heap.size U wa) := Lib.hid (below_next_ HB2.out hba.out)
   clear hba HC hw2 e0 e1 e2 e3 e4 e5 e6 e7
   go_wp2_with fail
   refine (parent_next (w := wa) (Lib.hid (Below.refl _ _)) x0 (by have := HSX.out; omega)).mono ?_
   rintro e w3 ⟨rfl, hb3⟩
   have c0 := pw_cell_below hb3.out c0
   have c1 := pw_cell_below hb3.out c1
   have c2 := pw_cell_below hb3.out c2
   have c3 := pw_cell_below hb3.out c3
   have c4 := pw_cell_below hb3.out c4
   have c5 := pw_cell_below hb3.out c5
   have c6 := pw_cell_below hb3.out c6
   have c7 := pw_cell_below hb3.out c7
   have HB3 : Hid (Below U.heap.size U w3) := Lib.hid (below_next_ HBa.out hb3.out)
   have HBW : Hid (Below W.heap.size W w3) := Lib.hid (below_next_ HBU.out HB3.out)
   clear hb3 HBa
   generalize parentT x0 = par at *
   generalize checkP x0 = p at *
   generalize checkD x0 = d at *
   generalize checkE x0 = ee at *
   by_cases g1 : ee = 0
   case neg =>
    have q1 : (ee == 0) = false := by simpa using g1
    have HR : Hid (right16 l = false) := Lib.hid (r16_no1 HX.out (by rw [HV.out]; unfold stepV; rw [decide_eq_false g1]; rfl))
    clear HV HS HX 
    go_wp2
    go_ret
    exact ⟨by rw [HR.out]; rfl, HBW.out⟩
   subst g1
   cases d
   case true =>
    have HR : Hid (right16 l = false) := Lib.hid (r16_no1 HX.out (by rw [HV.out]; unfold stepV; simp))
    clear HV HS HX 
    go_wp2
    go_ret
    exact ⟨by rw [HR.out]; rfl, HBW.out⟩
   by_cases g2 : p = x0
   case neg =>
    have q2 := tl_ne _ _ g2
    have HR : Hid (right16 l = false) := Lib.hid (r16_no1 HX.out (by rw [HV.out]; unfold stepV; rw [decide_eq_false g2]; simp))
    clear HV HS HX g2
    go_wp2
    go_ret
    exact ⟨by rw [HR.out]; rfl, HBW.out⟩
   have q2 := tl_eq _ _ g2
   by_cases g3 : x1 < 1
   ·
    skip
    have HR : Hid (right16 l = false) := Lib.hid (r16_no1 HX.out (by rw [HV.out]; unfold stepV; rw [decide_eq_false (show ¬ 1 ≤ x1 by omega)]; simp))
    clear HV HS HX g2
    go_wp2
    go_ret
    exact ⟨by rw [HR.out]; rfl, HBW.out⟩
   by_cases g4 : 3 < x1
   ·
    skip
    have HR : Hid (right16 l = false) := Lib.hid (r16_no1 HX.out (by rw [HV.out]; unfold stepV; rw [decide_eq_false (show ¬ x1 ≤ 3 by omega)]; simp))
    clear HV HS HX g2
    go_wp2
    go_ret
    exact ⟨by rw [HR.out]; rfl, HBW.out⟩
   have HV2 : Hid (∀ o, orderT (l.getD (k - 1) (x0, x1, x2, x3, x4, x5, x6, x7)).1 x0 = o → stepOk l k (x0, x1, x2, x3, x4, x5, x6, x7) = ((decide (k = 0) || decide (o < 0)) && decide (kindOf l par = 1))) := Lib.hid (fun o ho => by
    rw [HV.out, ho]; unfold stepV; rw [decide_eq_true g2, decide_eq_true (show 1 ≤ x1 by omega), decide_eq_true (show x1 ≤ 3 by omega)]; rfl)
   clear g2
   obtain ⟨z, hz⟩ : ∃ z, z = noDirData (x0, x1, x2, x3, x4, x5, x6, x7) := ⟨_, rfl⟩
   cases z
   case false =>
    have hz2 : x1 = 1 ∧ ¬ x7.data.toList = [] := by
     have h := hz.symm
     unfold noDirData at h
     simp only [Bool.not_eq_false', Bool.and_eq_true, decide_eq_true_eq] at h
     refine ⟨h.1, fun e => ?_⟩
     have := h.2
     rw [← len_data, e] at this
     simp at this
    obtain ⟨rfl, g8⟩ := hz2
    have q7 := emp_f g8
    have q8 := emq_f g8
    have HR : Hid (right16 l = false) := Lib.hid (r16_no2 HX.out hz.symm)
    clear HV HV2 HS HX hz g8
    go_wp2
    go_ret
    exact ⟨by rw [HR.out]; rfl, HBW.out⟩
   have HD : Hid (noDirData (x0, x1, x2, x3, x4, x5, x6, x7) = true) := Lib.hid hz.symm
   have HDD : Hid (x1 = 1 → x7.data.toList = []) := Lib.hid (fun e => by
    have h := hz.symm
    unfold noDirData at h
    simp only [e, decide_true, Bool.true_and, Bool.not_eq_true', decide_eq_false_iff_not] at h
    have : x7.data.toList.length = 0 := by rw [len_data]; omega
    exact List.eq_nil_of_length_eq_zero this)
   clear hz HV
   by_cases g9 : x1 = 1
   ·
    have g8 := HDD.out g9
    subst g9
    have q5 := emp_t g8
    have q6 := emq_t g8
    clear g8 HDD
    by_cases hk0 : k = 0
    ·
     have q0 : decide (0 < k) = false := decide_eq_false (by omega)
     have HV3 : Hid (stepOk l k (x0, 1, x2, x3, x4, x5, x6, x7) = decide (kindOf l par = 1)) := Lib.hid (by rw [HV2.out _ rfl, decide_eq_true hk0]; rfl)
     clear HV2 hk0
     go_wp2_with fail
     refine start_ (n := 15) (S := fun w' => True) (ds := []) #[false, false, false, false, false, false, false, false, false, false, false, false, false, false, false] (by kernel_rfl) rfl rfl trivial (fun hHeld => ?_)
     have HB5 : Hid (Below w3.heap.size w3 w3.drew) := Lib.hid (below_drew (Below.refl _ _))
     generalize w3.drew = w5 at *
     refine pure_ (i := 0) (N := some 64) (v := ?_) (a' := ?_) #[true, false, false, false, false, false, false, false, false, false, false, false, false, false, false] rfl rfl (by kernel_rfl) (fun _ _ _ h => h) (Or.inl ⟨by rfl, ?_⟩) ?_ ?_
     rotate_left
     ·
      intro w'
      go_simp
      with_reducible rfl
     rotate_left
     ·
      simp only [Act.put, Own.na, Own.nz, Own.ns, i64_w, i32_w]
      rfl
     refine pure_ (i := 1) (N := some 65) (v := ?_) (a' := ?_) #[true, true, false, false, false, false, false, false, false, false, false, false, false, false, false] rfl rfl (by kernel_rfl) (fun _ _ _ h => h) (Or.inl ⟨by rfl, ?_⟩) ?_ ?_
     rotate_left
     ·
      intro w'
      go_simp
      with_reducible rfl
     rotate_left
     ·
      simp only [Act.put, Own.na, Own.nz, Own.ns, i64_w, i32_w]
      rfl
     refine pure_ (i := 2) (N := some 66) (v := ?_) (a' := ?_) #[true, true, true, false, false, false, false, false, false, false, false, false, false, false, false] rfl rfl (by kernel_rfl) (fun _ _ _ h => h) (Or.inl ⟨by rfl, ?_⟩) ?_ ?_
     rotate_left
     ·
      intro w'
      go_simp
      with_reducible rfl
     rotate_left
     ·
      simp only [Act.put, Own.na, Own.nz, Own.ns, i64_w, i32_w]
      rfl
     refine pure_ (i := 3) (N := some 67) (v := undef) (a' := ?_) #[true, true, true, true, false, false, false, false, false, false, false, false, false, false, false] rfl rfl (by kernel_rfl) (fun _ _ _ h => h) (Or.inr ⟨by rfl, rfl⟩) ?_ ?_
     rotate_left
     ·
      simp only [Act.put, Own.na, Own.nz, Own.ns, i64_w, i32_w]
      rfl
     refine pure_ (i := 4) (N := some 68) (v := undef) (a' := ?_) #[true, true, true, true, true, false, false, false, false, false, false, false, false, false, false] rfl rfl (by kernel_rfl) (fun _ _ _ h => h) (Or.inr ⟨by rfl, rfl⟩) ?_ ?_
     rotate_left
     ·
      simp only [Act.put, Own.na, Own.nz, Own.ns, i64_w, i32_w]
      rfl
     refine pure_ (i := 5) (N := some 69) (v := undef) (a' := ?_) #[true, true, true, true, true, true, false, false, false, false, false, false, false, false, false] rfl rfl (by kernel_rfl) (fun _ _ _ h => h) (Or.inr ⟨by rfl, rfl⟩) ?_ ?_
     rotate_left
     ·
      simp only [Act.put, Own.na, Own.nz, Own.ns, i64_w, i32_w]
      rfl
     refine pure_ (i := 6) (N := some 70) (v := undef) (a' := ?_) #[true, true, true, true, true, true, true, false, false, false, false, false, false, false, false] rfl rfl (by kernel_rfl) (fun _ _ _ h => h) (Or.inr ⟨by rfl, rfl⟩) ?_ ?_
     rotate_left
     ·
      simp only [Act.put, Own.na, Own.nz, Own.ns, i64_w, i32_w]
      rfl
     refine pure_ (i := 7) (N := some 71) (v := undef) (a' := ?_) #[true, true, true, true, true, true, true, true, false, false, false, false, false, false, false] rfl rfl (by kernel_rfl) (fun _ _ _ h => h) (Or.inr ⟨by rfl, rfl⟩) ?_ ?_
     rotate_left
     ·
      simp only [Act.put, Own.na, Own.nz, Own.ns, i64_w, i32_w]
      rfl
     refine pure_ (i := 8) (N := some 72) (v := undef) (a' := ?_) #[true, true, true, true, true, true, true, true, true, false, false, false, false, false, false] rfl rfl (by kernel_rfl) (fun _ _ _ h => h) (Or.inr ⟨by rfl, rfl⟩) ?_ ?_
     rotate_left
     ·
      simp only [Act.put, Own.na, Own.nz, Own.ns, i64_w, i32_w]
      rfl
     refine pure_ (i := 9) (N := some 73) (v := undef) (a' := ?_) #[true, true, true, true, true, true, true, true, true, true, false, false, false, false, false] rfl rfl (by kernel_rfl) (fun _ _ _ h => h) (Or.inr ⟨by rfl, rfl⟩) ?_ ?_
     rotate_left
     ·
      simp only [Act.put, Own.na, Own.nz, Own.ns, i64_w, i32_w]
      rfl
     refine pure_ (i := 10) (N := some 74) (v := undef) (a' := ?_) #[true, true, true, true, true, true, true, true, true, true, true, false, false, false, false] rfl rfl (by kernel_rfl) (fun _ _ _ h => h) (Or.inr ⟨by rfl, rfl⟩) ?_ ?_
     rotate_left
     ·
      simp only [Act.put, Own.na, Own.nz, Own.ns, i64_w, i32_w]
      rfl
     refine pure_ (i := 11) (N := some 75) (v := undef) (a' := ?_) #[true, true, true, true, true, true, true, true, true, true, true, true, false, false, false] rfl rfl (by kernel_rfl) (fun _ _ _ h => h) (Or.inr ⟨by rfl, rfl⟩) ?_ ?_
     rotate_left
     ·
      simp only [Act.put, Own.na, Own.nz, Own.ns, i64_w, i32_w]
      rfl
     refine pure_ (i := 12) (N := some 76) (v := undef) (a' := ?_) #[true, true, true, true, true, true, true, true, true, true, true, true, true, false, false] rfl rfl (by kernel_rfl) (fun _ _ _ h => h) (Or.inr ⟨by rfl, rfl⟩) ?_ ?_
     rotate_left
     ·
      simp only [Act.put, Own.na, Own.nz, Own.ns, i64_w, i32_w]
      rfl
     refine pure_ (i := 13) (N := some 77) (v := ?_) (a' := ?_) #[true, true, true, true, true, true, true, true, true, true, true, true, true, true, false] rfl rfl (by kernel_rfl) (fun _ _ _ h => h) (Or.inl ⟨by rfl, ?_⟩) ?_ ?_
     rotate_left
     ·
      intro w'
      go_simp
      with_reducible rfl
     rotate_left
     ·
      simp only [Act.put, Own.na, Own.nz, Own.ns, i64_w, i32_w]
      rfl
     refine pure_ (i := 14) (N := some 63) (v := ?_) (a' := ?_) #[true, true, true, true, true, true, true, true, true, true, true, true, true, true, true] rfl rfl (by kernel_rfl) (fun _ _ _ h => h) (Or.inl ⟨by rfl, ?_⟩) ?_ ?_
     rotate_left
     ·
      intro w'
      go_simp
      with_reducible rfl
     rotate_left
     ·
      simp only [Act.put, Own.na, Own.nz, Own.ns, i64_w, i32_w]
      rfl
     refine done_ (by kernel_rfl) ?_
     have HB6 : Hid (Below U.heap.size U w5) := Lib.hid (below_next_ HB3.out HB5.out)
     have HBW2 : Hid (Below W.heap.size W w5) := Lib.hid (below_next_ HBW.out HB5.out)
     have HM5 := HM.out.below HB6.out
     clear HB3 HB5 HBW
     by_cases g7 : par.data.toList = []
     ·
      have q7 := emp_t g7
      have q8 := emq_t g7
      have HN : Hid (SoFar2 l (k + 1)) := Lib.hid (soFar2_next HS.out HX.out (by rw [HV3.out]; unfold kindOf; rw [if_pos g7]; rfl) HD.out)
      clear HV3 HS HX HM5 g7
      go_wp2
      go_roundw
      case rel => exact ⟨k + 1, by omega, by go_num, HN, HB6⟩
      case measure => simp [intOf]; omega
     ·
      have q7 := emp_f g7
      have q8 := emq_f g7
      have hkd := kind_node l par g7
      cases hf : nodeP l par with
      | none =>
       have hq : (Instr.lookup 125 (.map (some bm)) (.string par) false).run Tryz.prog w5 = .ok (.agg #[.int .i64 0, .int .u32 0, .int .u32 0, .int .u32 0, .int .i64 0, .int .i64 0, .string ByteArray.empty]) w5 := by
        have := HM5.ask (t := 125) (kT := 9) (eT := 34) (by kernel_rfl) (by kernel_rfl) (zeroN _) par false
        rw [hf] at this
        exact this
       have HR : Hid (right16 l = false) := Lib.hid (r16_no1 HX.out (by rw [HV3.out, hkd, hf]; rfl))
       clear HV3 HS HX HM5 hf hkd g7
       go_wp2
       rename_i K hK
       refine hK _ _ ?_
       go_wp2
       go_ret
       exact ⟨by rw [HR.out]; rfl, HBW2.out⟩
      | some n =>
       obtain ⟨n0, n1, n2, n3, n4, n5, n6⟩ := n
       have hq : (Instr.lookup 125 (.map (some bm)) (.string par) false).run Tryz.prog w5 = .ok (.agg #[.int .i64 n0, .int .u32 n1, .int .u32 n2, .int .u32 n3, .int .i64 n4, .int .i64 n5, .string n6]) w5 := by
        have := HM5.ask (t := 125) (kT := 9) (eT := 34) (by kernel_rfl) (by kernel_rfl) (zeroN _) par false
        rw [hf] at this
        exact this
       have HKD : Hid (kindOf l par = n0) := Lib.hid (by rw [hkd, hf]; rfl)
       clear HM5 hf hkd g7
       by_cases g6 : n0 = 1
       ·
        subst g6
        have HN : Hid (SoFar2 l (k + 1)) := Lib.hid (soFar2_next HS.out HX.out (by rw [HV3.out, HKD.out]; rfl) HD.out)
        clear HV3 HS HX
        go_wp2
        rename_i K hK
        refine hK _ _ ?_
        go_wp2
        go_roundw
        case rel => exact ⟨k + 1, by omega, by go_num, HN, HB6⟩
        case measure => simp [intOf]; omega
       ·
        have q6 : (n0 == 1) = false := by simpa using g6
        have HR : Hid (right16 l = false) := Lib.hid (r16_no1 HX.out (by rw [HV3.out, HKD.out]; exact decide_eq_false g6))
        clear HV3 HS HX
        go_wp2
        rename_i K hK
        refine hK _ _ ?_
        go_wp2
        go_ret
        exact ⟨by rw [HR.out]; rfl, HBW2.out⟩
    ·
     have q0 : decide (0 < k) = true := decide_eq_true (by omega)
     obtain ⟨j, hj⟩ : ∃ j, j = k - 1 := ⟨_, rfl⟩
     have hjl : j < l.length := by omega
     obtain ⟨ad', had, f0, _⟩ := item_at (Kd.C_below HL.out HB3.out) hjl
     injection had with had
     subst had
     have hy : l.getD j (x0, 1, x2, x3, x4, x5, x6, x7) = l[j] := by rw [List.getD_eq_getElem?_getD, List.getElem?_eq_getElem hjl]; rfl
     have HSY := Lib.hid (HZ.out _ (List.getElem_mem hjl))
     have HG3 := Lib.hid (HGU.out.below HB3.out)
     rw [← hj] at HV2
     rw [hy] at HV2
     generalize l[j].1 = y0 at *
     have qj : (j : Int) < (l.length : Int) := by omega
     have hkj : (k : Int) - 1 = (j : Int) := by omega
     have HK0 := Lib.hid hk0
     clear hy hj hk0
     have wj : Go.RowKit.wrap64 (j : Int) = (j : Int) := w_le (Nat.le_of_lt hjl) hn
     go_wp2_with fail
     refine start_ (n := 15) (S := fun w' => w'.cell? (ad.add (j * 8)) = some (.string y0) ∧ w'.cell? ⟨bx, 0, none⟩ = some (.string x0)) (ds := [11]) #[false, false, false, false, false, false, false, false, false, false, false, false, false, false, false] (by kernel_rfl) rfl rfl ⟨f0, c0⟩ (fun hHeld => ?_)
     have HBd : Hid (Below w3.heap.size w3 w3.drew) := Lib.hid (below_drew (Below.refl _ _))
     generalize w3.drew = w4 at *
     refine pure_ (i := 0) (N := some 64) (v := ?_) (a' := ?_) #[true, false, false, false, false, false, false, false, false, false, false, false, false, false, false] rfl rfl (by kernel_rfl) (fun _ _ _ h => h) (Or.inl ⟨by rfl, ?_⟩) ?_ ?_
     rotate_left
     ·
      intro w'
      go_simp
      with_reducible rfl
     rotate_left
     ·
      simp only [Act.put, Own.na, Own.nz, Own.ns, i64_w, i32_w]
      rfl
     refine pure_ (i := 1) (N := some 65) (v := ?_) (a' := ?_) #[true, true, false, false, false, false, false, false, false, false, false, false, false, false, false] rfl rfl (by kernel_rfl) (fun _ _ _ h => h) (Or.inl ⟨by rfl, ?_⟩) ?_ ?_
     rotate_left
     ·
      intro w'
      go_simp
      with_reducible rfl
     rotate_left
     ·
      simp only [Act.put, Own.na, Own.nz, Own.ns, i64_w, i32_w]
      rfl
     refine pure_ (i := 2) (N := some 66) (v := ?_) (a' := ?_) #[true, true, true, false, false, false, false, false, false, false, false, false, false, false, false] rfl rfl (by kernel_rfl) (fun _ _ _ h => h) (Or.inl ⟨by rfl, ?_⟩) ?_ ?_
     rotate_left
     ·
      intro w'
      go_simp
      with_reducible rfl
     rotate_left
     ·
      simp only [Act.put, Own.na, Own.nz, Own.ns, i64_w, i32_w]
      rfl
     refine pure_ (i := 3) (N := some 67) (v := ?_) (a' := ?_) #[true, true, true, true, false, false, false, false, false, false, false, false, false, false, false] rfl rfl (by kernel_rfl) (fun _ _ _ h => h) (Or.inl ⟨by rfl, ?_⟩) ?_ ?_
     rotate_left
     ·
      intro w'
      go_simp
      with_reducible rfl
     rotate_left
     ·
      simp only [Act.put, Own.na, Own.nz, Own.ns, i64_w, i32_w]
      rfl
     refine pure_ (i := 4) (N := some 68) (v := ?_) (a' := ?_) #[true, true, true, true, true, false, false, false, false, false, false, false, false, false, false] rfl rfl (by kernel_rfl) (fun _ _ _ h => h) (Or.inl ⟨by rfl, ?_⟩) ?_ ?_
     rotate_left
     ·
      intro w'
      go_simp
      with_reducible rfl
     rotate_left
     ·
      simp only [Act.put, Own.na, Own.nz, Own.ns, i64_w, i32_w]
      rfl
     refine pure_ (i := 5) (N := some 69) (v := ?_) (a' := ?_) #[true, true, true, true, true, true, false, false, false, false, false, false, false, false, false] rfl rfl (by kernel_rfl) (fun _ _ _ h => h) (Or.inl ⟨by rfl, ?_⟩) ?_ ?_
     rotate_left
     ·
      intro w'
      go_simp
      with_reducible rfl
     rotate_left
     ·
      simp only [Act.put, Own.na, Own.nz, Own.ns, i64_w, i32_w]
      rfl
     refine pure_ (i := 6) (N := some 70) (v := ?_) (a' := ?_) #[true, true, true, true, true, true, true, false, false, false, false, false, false, false, false] rfl rfl (by kernel_rfl) (fun _ _ _ h => h) (Or.inl ⟨by rfl, ?_⟩) ?_ ?_
     rotate_left
     ·
      intro w'
      go_simp
      with_reducible rfl
     rotate_left
     ·
      simp only [Act.put, Own.na, Own.nz, Own.ns, i64_w, i32_w]
      rfl
     refine pure_ (i := 7) (N := some 71) (v := ?_) (a' := ?_) #[true, true, true, true, true, true, true, true, false, false, false, false, false, false, false] rfl rfl (by kernel_rfl) (fun _ _ _ h => h) (Or.inl ⟨by rfl, ?_⟩) ?_ ?_
     rotate_left
     ·
      intro w'
      go_simp
      with_reducible rfl
     rotate_left
     ·
      simp only [Act.put, Own.na, Own.nz, Own.ns, i64_w, i32_w]
      rfl
     refine pure_ (i := 9) (N := some 73) (v := ?_) (a' := ?_) #[true, true, true, true, true, true, true, true, false, true, false, false, false, false, false] rfl rfl (by kernel_rfl) (fun _ _ _ h => h) (Or.inl ⟨by rfl, ?_⟩) ?_ ?_
     rotate_left
     ·
      intro w'
      go_simp
      with_reducible rfl
     rotate_left
     ·
      simp only [Act.put, Own.na, Own.nz, Own.ns, i64_w, i32_w]
      rfl
     refine take_ (i := 8) (N := some 72) (v := ?_) (a' := ?_) #[true, true, true, true, true, true, true, true, true, true, false, false, false, false, false] rfl rfl (by kernel_rfl) (fun _ _ _ h => h) (Or.inl ⟨by rfl, ?_⟩) hHeld ?_ ?_
     rotate_left
     ·
      rintro w' ⟨s0, s1⟩
      go_simp
      with_reducible rfl
     rotate_left
     ·
      simp only [Act.put, Own.na, Own.nz, Own.ns, i64_w, i32_w]
      rfl
     refine take_ (i := 10) (N := some 74) (v := ?_) (a' := ?_) #[true, true, true, true, true, true, true, true, true, true, true, false, false, false, false] rfl rfl (by kernel_rfl) (fun _ _ _ h => h) (Or.inl ⟨by rfl, ?_⟩) hHeld ?_ ?_
     rotate_left
     ·
      rintro w' ⟨s0, s1⟩
      go_simp
      with_reducible rfl
     rotate_left
     ·
      simp only [Act.put, Own.na, Own.nz, Own.ns, i64_w, i32_w]
      rfl
     refine last_ (i := 11) (N := some 75) #[true, true, true, true, true, true, true, true, true, true, true, true, false, false, false] rfl rfl (by kernel_rfl) (by decide) (fun K hK => ?_)
     refine goes_ Tryz.func83 (by kernel_rfl) rfl #[.string y0, .string x0] (by rfl) rfl rfl (by simp only [List.map_toArray, List.map_cons, List.map_nil]; rfl) ?_
     with_reducible refine (order_next2 HG3 HBd y0 x0 HSY.out HSX.out).mono ?_
     rintro e w5 ⟨rfl, HB5⟩
     refine ⟨_, rfl, ?_⟩
     generalize orderT y0 x0 = rr at *
     refine hK.out _ _ ?_
     clear hK K
     refine norm_ (a' := ?_) ?_ ?_
     rotate_left
     ·
      show Act.put _ (some 75) _ = _
      simp only [Act.put, Own.na, Own.nz, Own.ns, i64_w, i32_w]
      rfl
     refine pure_ (i := 12) (N := some 76) (v := ?_) (a' := ?_) #[true, true, true, true, true, true, true, true, true, true, true, true, true, false, false] rfl rfl (by kernel_rfl) (fun _ _ _ h => h) (Or.inl ⟨by rfl, ?_⟩) ?_ ?_
     rotate_left
     ·
      intro w'
      go_simp
      with_reducible rfl
     rotate_left
     ·
      simp only [Act.put, Own.na, Own.nz, Own.ns, i64_w, i32_w]
      rfl
     refine pure_ (i := 13) (N := some 77) (v := ?_) (a' := ?_) #[true, true, true, true, true, true, true, true, true, true, true, true, true, true, false] rfl rfl (by kernel_rfl) (fun _ _ _ h => h) (Or.inl ⟨by rfl, ?_⟩) ?_ ?_
     rotate_left
     ·
      intro w'
      go_simp
      with_reducible rfl
     rotate_left
     ·
      simp only [Act.put, Own.na, Own.nz, Own.ns, i64_w, i32_w]
      rfl
     refine pure_ (i := 14) (N := some 63) (v := ?_) (a' := ?_) #[true, true, true, true, true, true, true, true, true, true, true, true, true, true, true] rfl rfl (by kernel_rfl) (fun _ _ _ h => h) (Or.inl ⟨by rfl, ?_⟩) ?_ ?_
     rotate_left
     ·
      intro w'
      go_simp
      with_reducible rfl
     rotate_left
     ·
      simp only [Act.put, Own.na, Own.nz, Own.ns, i64_w, i32_w]
      rfl
     refine done_ (by kernel_rfl) ?_
     clear wj hkj
     generalize hbb : decide (0 ≤ rr) = bb
     cases bb
     case false =>
      have g5 : rr < 0 := by have := of_decide_eq_false hbb; omega
      have HV3 : Hid (stepOk l k (x0, 1, x2, x3, x4, x5, x6, x7) = decide (kindOf l par = 1)) := Lib.hid (by rw [HV2.out rr rfl, decide_eq_true g5, decide_eq_false HK0.out]; rfl)
      clear HV2 HK0 g5 f0 HSY hbb HG3
      have HB6 : Hid (Below U.heap.size U w5) := Lib.hid (below_next_ HB3.out HB5.out)
      have HBW2 : Hid (Below W.heap.size W w5) := Lib.hid (below_next_ HBW.out HB5.out)
      have HM5 := HM.out.below HB6.out
      clear HB3 HB5 HBW
      by_cases g7 : par.data.toList = []
      ·
       have q7 := emp_t g7
       have q8 := emq_t g7
       have HN : Hid (SoFar2 l (k + 1)) := Lib.hid (soFar2_next HS.out HX.out (by rw [HV3.out]; unfold kindOf; rw [if_pos g7]; rfl) HD.out)
       clear HV3 HS HX HM5 g7
       go_wp2
       go_roundw
       case rel => exact ⟨k + 1, by omega, by go_num, HN, HB6⟩
       case measure => simp [intOf]; omega
      ·
       have q7 := emp_f g7
       have q8 := emq_f g7
       have hkd := kind_node l par g7
       cases hf : nodeP l par with
       | none =>
        have hq : (Instr.lookup 125 (.map (some bm)) (.string par) false).run Tryz.prog w5 = .ok (.agg #[.int .i64 0, .int .u32 0, .int .u32 0, .int .u32 0, .int .i64 0, .int .i64 0, .string ByteArray.empty]) w5 := by
         have := HM5.ask (t := 125) (kT := 9) (eT := 34) (by kernel_rfl) (by kernel_rfl) (zeroN _) par false
         rw [hf] at this
         exact this
        have HR : Hid (right16 l = false) := Lib.hid (r16_no1 HX.out (by rw [HV3.out, hkd, hf]; rfl))
        clear HV3 HS HX HM5 hf hkd g7
        go_wp2
        rename_i K hK
        refine hK _ _ ?_
        go_wp2
        go_ret
        exact ⟨by rw [HR.out]; rfl, HBW2.out⟩
       | some n =>
        obtain ⟨n0, n1, n2, n3, n4, n5, n6⟩ := n
        have hq : (Instr.lookup 125 (.map (some bm)) (.string par) false).run Tryz.prog w5 = .ok (.agg #[.int .i64 n0, .int .u32 n1, .int .u32 n2, .int .u32 n3, .int .i64 n4, .int .i64 n5, .string n6]) w5 := by
         have := HM5.ask (t := 125) (kT := 9) (eT := 34) (by kernel_rfl) (by kernel_rfl) (zeroN _) par false
         rw [hf] at this
         exact this
        have HKD : Hid (kindOf l par = n0) := Lib.hid (by rw [hkd, hf]; rfl)
        clear HM5 hf hkd g7
        by_cases g6 : n0 = 1
        ·
         subst g6
         have HN : Hid (SoFar2 l (k + 1)) := Lib.hid (soFar2_next HS.out HX.out (by rw [HV3.out, HKD.out]; rfl) HD.out)
         clear HV3 HS HX
         go_wp2
         rename_i K hK
         refine hK _ _ ?_
         go_wp2
         go_roundw
         case rel => exact ⟨k + 1, by omega, by go_num, HN, HB6⟩
         case measure => simp [intOf]; omega
        ·
         have q6 : (n0 == 1) = false := by simpa using g6
         have HR : Hid (right16 l = false) := Lib.hid (r16_no1 HX.out (by rw [HV3.out, HKD.out]; exact decide_eq_false g6))
         clear HV3 HS HX
         go_wp2
         rename_i K hK
         refine hK _ _ ?_
         go_wp2
         go_ret
         exact ⟨by rw [HR.out]; rfl, HBW2.out⟩
     case true =>
      have g5 : ¬ rr < 0 := by have := of_decide_eq_true hbb; omega
      have HR : Hid (right16 l = false) := Lib.hid (r16_no1 HX.out (by rw [HV2.out rr rfl, decide_eq_false g5, decide_eq_false HK0.out]; rfl))
      have HBW2 : Hid (Below W.heap.size W w5) := Lib.hid (below_next_ HBW.out HB5.out)
      clear HV2 HK0 HS HX f0 HB3 HB5 HBW hbb g5 HG3
      go_wp2
      go_ret
      exact ⟨by rw [HR.out]; rfl, HBW2.out⟩
   ·
    have q9 : (x1 == 1) = false := by simpa using g9
    clear HDD
    by_cases hk0 : k = 0
    ·
     have q0 : decide (0 < k) = false := decide_eq_false (by omega)
     have HV3 : Hid (stepOk l k (x0, x1, x2, x3, x4, x5, x6, x7) = decide (kindOf l par = 1)) := Lib.hid (by rw [HV2.out _ rfl, decide_eq_true hk0]; rfl)
     clear HV2 hk0
     go_wp2_with fail
     refine start_ (n := 15) (S := fun w' => True) (ds := []) #[false, false, false, false, false, false, false, false, false, false, false, false, false, false, false] (by kernel_rfl) rfl rfl trivial (fun hHeld => ?_)
     have HB5 : Hid (Below w3.heap.size w3 w3.drew) := Lib.hid (below_drew (Below.refl _ _))
     generalize w3.drew = w5 at *
     refine pure_ (i := 0) (N := some 64) (v := ?_) (a' := ?_) #[true, false, false, false, false, false, false, false, false, false, false, false, false, false, false] rfl rfl (by kernel_rfl) (fun _ _ _ h => h) (Or.inl ⟨by rfl, ?_⟩) ?_ ?_
     rotate_left
     ·
      intro w'
      go_simp
      with_reducible rfl
     rotate_left
     ·
      simp only [Act.put, Own.na, Own.nz, Own.ns, i64_w, i32_w]
      rfl
     refine pure_ (i := 1) (N := some 65) (v := ?_) (a' := ?_) #[true, true, false, false, false, false, false, false, false, false, false, false, false, false, false] rfl rfl (by kernel_rfl) (fun _ _ _ h => h) (Or.inl ⟨by rfl, ?_⟩) ?_ ?_
     rotate_left
     ·
      intro w'
      go_simp
      with_reducible rfl
     rotate_left
     ·
      simp only [Act.put, Own.na, Own.nz, Own.ns, i64_w, i32_w]
      rfl
     refine pure_ (i := 2) (N := some 66) (v := ?_) (a' := ?_) #[true, true, true, false, false, false, false, false, false, false, false, false, false, false, false] rfl rfl (by kernel_rfl) (fun _ _ _ h => h) (Or.inl ⟨by rfl, ?_⟩) ?_ ?_
     rotate_left
     ·
      intro w'
      go_simp
      with_reducible rfl
     rotate_left
     ·
      simp only [Act.put, Own.na, Own.nz, Own.ns, i64_w, i32_w]
      rfl
     refine pure_ (i := 3) (N := some 67) (v := undef) (a' := ?_) #[true, true, true, true, false, false, false, false, false, false, false, false, false, false, false] rfl rfl (by kernel_rfl) (fun _ _ _ h => h) (Or.inr ⟨by rfl, rfl⟩) ?_ ?_
     rotate_left
     ·
      simp only [Act.put, Own.na, Own.nz, Own.ns, i64_w, i32_w]
      rfl
     refine pure_ (i := 4) (N := some 68) (v := undef) (a' := ?_) #[true, true, true, true, true, false, false, false, false, false, false, false, false, false, false] rfl rfl (by kernel_rfl) (fun _ _ _ h => h) (Or.inr ⟨by rfl, rfl⟩) ?_ ?_
     rotate_left
     ·
      simp only [Act.put, Own.na, Own.nz, Own.ns, i64_w, i32_w]
      rfl
     refine pure_ (i := 5) (N := some 69) (v := undef) (a' := ?_) #[true, true, true, true, true, true, false, false, false, false, false, false, false, false, false] rfl rfl (by kernel_rfl) (fun _ _ _ h => h) (Or.inr ⟨by rfl, rfl⟩) ?_ ?_
     rotate_left
     ·
      simp only [Act.put, Own.na, Own.nz, Own.ns, i64_w, i32_w]
      rfl
     refine pure_ (i := 6) (N := some 70) (v := undef) (a' := ?_) #[true, true, true, true, true, true, true, false, false, false, false, false, false, false, false] rfl rfl (by kernel_rfl) (fun _ _ _ h => h) (Or.inr ⟨by rfl, rfl⟩) ?_ ?_
     rotate_left
     ·
      simp only [Act.put, Own.na, Own.nz, Own.ns, i64_w, i32_w]
      rfl
     refine pure_ (i := 7) (N := some 71) (v := undef) (a' := ?_) #[true, true, true, true, true, true, true, true, false, false, false, false, false, false, false] rfl rfl (by kernel_rfl) (fun _ _ _ h => h) (Or.inr ⟨by rfl, rfl⟩) ?_ ?_
     rotate_left
     ·
      simp only [Act.put, Own.na, Own.nz, Own.ns, i64_w, i32_w]
      rfl
     refine pure_ (i := 8) (N := some 72) (v := undef) (a' := ?_) #[true, true, true, true, true, true, true, true, true, false, false, false, false, false, false] rfl rfl (by kernel_rfl) (fun _ _ _ h => h) (Or.inr ⟨by rfl, rfl⟩) ?_ ?_
     rotate_left
     ·
      simp only [Act.put, Own.na, Own.nz, Own.ns, i64_w, i32_w]
      rfl
     refine pure_ (i := 9) (N := some 73) (v := undef) (a' := ?_) #[true, true, true, true, true, true, true, true, true, true, false, false, false, false, false] rfl rfl (by kernel_rfl) (fun _ _ _ h => h) (Or.inr ⟨by rfl, rfl⟩) ?_ ?_
     rotate_left
     ·
      simp only [Act.put, Own.na, Own.nz, Own.ns, i64_w, i32_w]
      rfl
     refine pure_ (i := 10) (N := some 74) (v := undef) (a' := ?_) #[true, true, true, true, true, true, true, true, true, true, true, false, false, false, false] rfl rfl (by kernel_rfl) (fun _ _ _ h => h) (Or.inr ⟨by rfl, rfl⟩) ?_ ?_
     rotate_left
     ·
      simp only [Act.put, Own.na, Own.nz, Own.ns, i64_w, i32_w]
      rfl
     refine pure_ (i := 11) (N := some 75) (v := undef) (a' := ?_) #[true, true, true, true, true, true, true, true, true, true, true, true, false, false, false] rfl rfl (by kernel_rfl) (fun _ _ _ h => h) (Or.inr ⟨by rfl, rfl⟩) ?_ ?_
     rotate_left
     ·
      simp only [Act.put, Own.na, Own.nz, Own.ns, i64_w, i32_w]
      rfl
     refine pure_ (i := 12) (N := some 76) (v := undef) (a' := ?_) #[true, true, true, true, true, true, true, true, true, true, true, true, true, false, false] rfl rfl (by kernel_rfl) (fun _ _ _ h => h) (Or.inr ⟨by rfl, rfl⟩) ?_ ?_
     rotate_left
     ·
      simp only [Act.put, Own.na, Own.nz, Own.ns, i64_w, i32_w]
      rfl
     refine pure_ (i := 13) (N := some 77) (v := ?_) (a' := ?_) #[true, true, true, true, true, true, true, true, true, true, true, true, true, true, false] rfl rfl (by kernel_rfl) (fun _ _ _ h => h) (Or.inl ⟨by rfl, ?_⟩) ?_ ?_
     rotate_left
     ·
      intro w'
      go_simp
      with_reducible rfl
     rotate_left
     ·
      simp only [Act.put, Own.na, Own.nz, Own.ns, i64_w, i32_w]
      rfl
     refine pure_ (i := 14) (N := some 63) (v := ?_) (a' := ?_) #[true, true, true, true, true, true, true, true, true, true, true, true, true, true, true] rfl rfl (by kernel_rfl) (fun _ _ _ h => h) (Or.inl ⟨by rfl, ?_⟩) ?_ ?_
     rotate_left
     ·
      intro w'
      go_simp
      with_reducible rfl
     rotate_left
     ·
      simp only [Act.put, Own.na, Own.nz, Own.ns, i64_w, i32_w]
      rfl
     refine done_ (by kernel_rfl) ?_
     have HB6 : Hid (Below U.heap.size U w5) := Lib.hid (below_next_ HB3.out HB5.out)
     have HBW2 : Hid (Below W.heap.size W w5) := Lib.hid (below_next_ HBW.out HB5.out)
     have HM5 := HM.out.below HB6.out
     clear HB3 HB5 HBW
     by_cases g7 : par.data.toList = []
     ·
      have q7 := emp_t g7
      have q8 := emq_t g7
      have HN : Hid (SoFar2 l (k + 1)) := Lib.hid (soFar2_next HS.out HX.out (by rw [HV3.out]; unfold kindOf; rw [if_pos g7]; rfl) HD.out)
      clear HV3 HS HX HM5 g7
      go_wp2
      go_roundw
      case rel => exact ⟨k + 1, by omega, by go_num, HN, HB6⟩
      case measure => simp [intOf]; omega
     ·
      have q7 := emp_f g7
      have q8 := emq_f g7
      have hkd := kind_node l par g7
      cases hf : nodeP l par with
      | none =>
       have hq : (Instr.lookup 125 (.map (some bm)) (.string par) false).run Tryz.prog w5 = .ok (.agg #[.int .i64 0, .int .u32 0, .int .u32 0, .int .u32 0, .int .i64 0, .int .i64 0, .string ByteArray.empty]) w5 := by
        have := HM5.ask (t := 125) (kT := 9) (eT := 34) (by kernel_rfl) (by kernel_rfl) (zeroN _) par false
        rw [hf] at this
        exact this
       have HR : Hid (right16 l = false) := Lib.hid (r16_no1 HX.out (by rw [HV3.out, hkd, hf]; rfl))
       clear HV3 HS HX HM5 hf hkd g7
       go_wp2
       rename_i K hK
       refine hK _ _ ?_
       go_wp2
       go_ret
       exact ⟨by rw [HR.out]; rfl, HBW2.out⟩
      | some n =>
       obtain ⟨n0, n1, n2, n3, n4, n5, n6⟩ := n
       have hq : (Instr.lookup 125 (.map (some bm)) (.string par) false).run Tryz.prog w5 = .ok (.agg #[.int .i64 n0, .int .u32 n1, .int .u32 n2, .int .u32 n3, .int .i64 n4, .int .i64 n5, .string n6]) w5 := by
        have := HM5.ask (t := 125) (kT := 9) (eT := 34) (by kernel_rfl) (by kernel_rfl) (zeroN _) par false
        rw [hf] at this
        exact this
       have HKD : Hid (kindOf l par = n0) := Lib.hid (by rw [hkd, hf]; rfl)
       clear HM5 hf hkd g7
       by_cases g6 : n0 = 1
       ·
        subst g6
        have HN : Hid (SoFar2 l (k + 1)) := Lib.hid (soFar2_next HS.out HX.out (by rw [HV3.out, HKD.out]; rfl) HD.out)
        clear HV3 HS HX
        go_wp2
        rename_i K hK
        refine hK _ _ ?_
        go_wp2
        go_roundw
        case rel => exact ⟨k + 1, by omega, by go_num, HN, HB6⟩
        case measure => simp [intOf]; omega
       ·
        have q6 : (n0 == 1) = false := by simpa using g6
        have HR : Hid (right16 l = false) := Lib.hid (r16_no1 HX.out (by rw [HV3.out, HKD.out]; exact decide_eq_false g6))
        clear HV3 HS HX
        go_wp2
        rename_i K hK
        refine hK _ _ ?_
        go_wp2
        go_ret
        exact ⟨by rw [HR.out]; rfl, HBW2.out⟩
    ·
     have q0 : decide (0 < k) = true := decide_eq_true (by omega)
     obtain ⟨j, hj⟩ : ∃ j, j = k - 1 := ⟨_, rfl⟩
     have hjl : j < l.length := by omega
     obtain ⟨ad', had, f0, _⟩ := item_at (Kd.C_below HL.out HB3.out) hjl
     injection had with had
     subst had
     have hy : l.getD j (x0, x1, x2, x3, x4, x5, x6, x7) = l[j] := by rw [List.getD_eq_getElem?_getD, List.getElem?_eq_getElem hjl]; rfl
     have HSY := Lib.hid (HZ.out _ (List.getElem_mem hjl))
     have HG3 := Lib.hid (HGU.out.below HB3.out)
     rw [← hj] at HV2
     rw [hy] at HV2
     generalize l[j].1 = y0 at *
     have qj : (j : Int) < (l.length : Int) := by omega
     have hkj : (k : Int) - 1 = (j : Int) := by omega
     have HK0 := Lib.hid hk0
     clear hy hj hk0
     have wj : Go.RowKit.wrap64 (j : Int) = (j : Int) := w_le (Nat.le_of_lt hjl) hn
     go_wp2_with fail
     refine start_ (n := 15) (S := fun w' => w'.cell? (ad.add (j * 8)) = some (.string y0) ∧ w'.cell? ⟨bx, 0, none⟩ = some (.string x0)) (ds := [11]) #[false, false, false, false, false, false, false, false, false, false, false, false, false, false, false] (by kernel_rfl) rfl rfl ⟨f0, c0⟩ (fun hHeld => ?_)
     have HBd : Hid (Below w3.heap.size w3 w3.drew) := Lib.hid (below_drew (Below.refl _ _))
     generalize w3.drew = w4 at *
     refine pure_ (i := 0) (N := some 64) (v := ?_) (a' := ?_) #[true, false, false, false, false, false, false, false, false, false, false, false, false, false, false] rfl rfl (by kernel_rfl) (fun _ _ _ h => h) (Or.inl ⟨by rfl, ?_⟩) ?_ ?_
     rotate_left
     ·
      intro w'
      go_simp
      with_reducible rfl
     rotate_left
     ·
      simp only [Act.put, Own.na, Own.nz, Own.ns, i64_w, i32_w]
      rfl
     refine pure_ (i := 1) (N := some 65) (v := ?_) (a' := ?_) #[true, true, false, false, false, false, false, false, false, false, false, false, false, false, false] rfl rfl (by kernel_rfl) (fun _ _ _ h => h) (Or.inl ⟨by rfl, ?_⟩) ?_ ?_
     rotate_left
     ·
      intro w'
      go_simp
      with_reducible rfl
     rotate_left
     ·
      simp only [Act.put, Own.na, Own.nz, Own.ns, i64_w, i32_w]
      rfl
     refine pure_ (i := 2) (N := some 66) (v := ?_) (a' := ?_) #[true, true, true, false, false, false, false, false, false, false, false, false, false, false, false] rfl rfl (by kernel_rfl) (fun _ _ _ h => h) (Or.inl ⟨by rfl, ?_⟩) ?_ ?_
     rotate_left
     ·
      intro w'
      go_simp
      with_reducible rfl
     rotate_left
     ·
      simp only [Act.put, Own.na, Own.nz, Own.ns, i64_w, i32_w]
      rfl
     refine pure_ (i := 3) (N := some 67) (v := ?_) (a' := ?_) #[true, true, true, true, false, false, false, false, false, false, false, false, false, false, false] rfl rfl (by kernel_rfl) (fun _ _ _ h => h) (Or.inl ⟨by rfl, ?_⟩) ?_ ?_
     rotate_left
     ·
      intro w'
      go_simp
      with_reducible rfl
     rotate_left
     ·
      simp only [Act.put, Own.na, Own.nz, Own.ns, i64_w, i32_w]
      rfl
     refine pure_ (i := 4) (N := some 68) (v := ?_) (a' := ?_) #[true, true, true, true, true, false, false, false, false, false, false, false, false, false, false] rfl rfl (by kernel_rfl) (fun _ _ _ h => h) (Or.inl ⟨by rfl, ?_⟩) ?_ ?_
     rotate_left
     ·
      intro w'
      go_simp
      with_reducible rfl
     rotate_left
     ·
      simp only [Act.put, Own.na, Own.nz, Own.ns, i64_w, i32_w]
      rfl
     refine pure_ (i := 5) (N := some 69) (v := ?_) (a' := ?_) #[true, true, true, true, true, true, false, false, false, false, false, false, false, false, false] rfl rfl (by kernel_rfl) (fun _ _ _ h => h) (Or.inl ⟨by rfl, ?_⟩) ?_ ?_
     rotate_left
     ·
      intro w'
      go_simp
      with_reducible rfl
     rotate_left
     ·
      simp only [Act.put, Own.na, Own.nz, Own.ns, i64_w, i32_w]
      rfl
     refine pure_ (i := 6) (N := some 70) (v := ?_) (a' := ?_) #[true, true, true, true, true, true, true, false, false, false, false, false, false, false, false] rfl rfl (by kernel_rfl) (fun _ _ _ h => h) (Or.inl ⟨by rfl, ?_⟩) ?_ ?_
     rotate_left
     ·
      intro w'
      go_simp
      with_reducible rfl
     rotate_left
     ·
      simp only [Act.put, Own.na, Own.nz, Own.ns, i64_w, i32_w]
      rfl
     refine pure_ (i := 7) (N := some 71) (v := ?_) (a' := ?_) #[true, true, true, true, true, true, true, true, false, false, false, false, false, false, false] rfl rfl (by kernel_rfl) (fun _ _ _ h => h) (Or.inl ⟨by rfl, ?_⟩) ?_ ?_
     rotate_left
     ·
      intro w'
      go_simp
      with_reducible rfl
     rotate_left
     ·
      simp only [Act.put, Own.na, Own.nz, Own.ns, i64_w, i32_w]
      rfl
     refine pure_ (i := 9) (N := some 73) (v := ?_) (a' := ?_) #[true, true, true, true, true, true, true, true, false, true, false, false, false, false, false] rfl rfl (by kernel_rfl) (fun _ _ _ h => h) (Or.inl ⟨by rfl, ?_⟩) ?_ ?_
     rotate_left
     ·
      intro w'
      go_simp
      with_reducible rfl
     rotate_left
     ·
      simp only [Act.put, Own.na, Own.nz, Own.ns, i64_w, i32_w]
      rfl
     refine take_ (i := 8) (N := some 72) (v := ?_) (a' := ?_) #[true, true, true, true, true, true, true, true, true, true, false, false, false, false, false] rfl rfl (by kernel_rfl) (fun _ _ _ h => h) (Or.inl ⟨by rfl, ?_⟩) hHeld ?_ ?_
     rotate_left
     ·
      rintro w' ⟨s0, s1⟩
      go_simp
      with_reducible rfl
     rotate_left
     ·
      simp only [Act.put, Own.na, Own.nz, Own.ns, i64_w, i32_w]
      rfl
     refine take_ (i := 10) (N := some 74) (v := ?_) (a' := ?_) #[true, true, true, true, true, true, true, true, true, true, true, false, false, false, false] rfl rfl (by kernel_rfl) (fun _ _ _ h => h) (Or.inl ⟨by rfl, ?_⟩) hHeld ?_ ?_
     rotate_left
     ·
      rintro w' ⟨s0, s1⟩
      go_simp
      with_reducible rfl
     rotate_left
     ·
      simp only [Act.put, Own.na, Own.nz, Own.ns, i64_w, i32_w]
      rfl
     refine last_ (i := 11) (N := some 75) #[true, true, true, true, true, true, true, true, true, true, true, true, false, false, false] rfl rfl (by kernel_rfl) (by decide) (fun K hK => ?_)
     refine goes_ Tryz.func83 (by kernel_rfl) rfl #[.string y0, .string x0] (by rfl) rfl rfl (by simp only [List.map_toArray, List.map_cons, List.map_nil]; rfl) ?_
     with_reducible refine (order_next2 HG3 HBd y0 x0 HSY.out HSX.out).mono ?_
     rintro e w5 ⟨rfl, HB5⟩
     refine ⟨_, rfl, ?_⟩
     generalize orderT y0 x0 = rr at *
     refine hK.out _ _ ?_
     clear hK K
     refine norm_ (a' := ?_) ?_ ?_
     rotate_left
     ·
      show Act.put _ (some 75) _ = _
      simp only [Act.put, Own.na, Own.nz, Own.ns, i64_w, i32_w]
      rfl
     refine pure_ (i := 12) (N := some 76) (v := ?_) (a' := ?_) #[true, true, true, true, true, true, true, true, true, true, true, true, true, false, false] rfl rfl (by kernel_rfl) (fun _ _ _ h => h) (Or.inl ⟨by rfl, ?_⟩) ?_ ?_
     rotate_left
     ·
      intro w'
      go_simp
      with_reducible rfl
     rotate_left
     ·
      simp only [Act.put, Own.na, Own.nz, Own.ns, i64_w, i32_w]
      rfl
     refine pure_ (i := 13) (N := some 77) (v := ?_) (a' := ?_) #[true, true, true, true, true, true, true, true, true, true, true, true, true, true, false] rfl rfl (by kernel_rfl) (fun _ _ _ h => h) (Or.inl ⟨by rfl, ?_⟩) ?_ ?_
     rotate_left
     ·
      intro w'
      go_simp
      with_reducible rfl
     rotate_left
     ·
      simp only [Act.put, Own.na, Own.nz, Own.ns, i64_w, i32_w]
      rfl
     refine pure_ (i := 14) (N := some 63) (v := ?_) (a' := ?_) #[true, true, true, true, true, true, true, true, true, true, true, true, true, true, true] rfl rfl (by kernel_rfl) (fun _ _ _ h => h) (Or.inl ⟨by rfl, ?_⟩) ?_ ?_
     rotate_left
     ·
      intro w'
      go_simp
      with_reducible rfl
     rotate_left
     ·
      simp only [Act.put, Own.na, Own.nz, Own.ns, i64_w, i32_w]
      rfl
     refine done_ (by kernel_rfl) ?_
     clear wj hkj
     generalize hbb : decide (0 ≤ rr) = bb
     cases bb
     case false =>
      have g5 : rr < 0 := by have := of_decide_eq_false hbb; omega
      have HV3 : Hid (stepOk l k (x0, x1, x2, x3, x4, x5, x6, x7) = decide (kindOf l par = 1)) := Lib.hid (by rw [HV2.out rr rfl, decide_eq_true g5, decide_eq_false HK0.out]; rfl)
      clear HV2 HK0 g5 f0 HSY hbb HG3
      have HB6 : Hid (Below U.heap.size U w5) := Lib.hid (below_next_ HB3.out HB5.out)
      have HBW2 : Hid (Below W.heap.size W w5) := Lib.hid (below_next_ HBW.out HB5.out)
      have HM5 := HM.out.below HB6.out
      clear HB3 HB5 HBW
      by_cases g7 : par.data.toList = []
      ·
       have q7 := emp_t g7
       have q8 := emq_t g7
       have HN : Hid (SoFar2 l (k + 1)) := Lib.hid (soFar2_next HS.out HX.out (by rw [HV3.out]; unfold kindOf; rw [if_pos g7]; rfl) HD.out)
       clear HV3 HS HX HM5 g7
       go_wp2
       go_roundw
       case rel => exact ⟨k + 1, by omega, by go_num, HN, HB6⟩
       case measure => simp [intOf]; omega
      ·
       have q7 := emp_f g7
       have q8 := emq_f g7
       have hkd := kind_node l par g7
       cases hf : nodeP l par with
       | none =>
        have hq : (Instr.lookup 125 (.map (some bm)) (.string par) false).run Tryz.prog w5 = .ok (.agg #[.int .i64 0, .int .u32 0, .int .u32 0, .int .u32 0, .int .i64 0, .int .i64 0, .string ByteArray.empty]) w5 := by
         have := HM5.ask (t := 125) (kT := 9) (eT := 34) (by kernel_rfl) (by kernel_rfl) (zeroN _) par false
         rw [hf] at this
         exact this
        have HR : Hid (right16 l = false) := Lib.hid (r16_no1 HX.out (by rw [HV3.out, hkd, hf]; rfl))
        clear HV3 HS HX HM5 hf hkd g7
        go_wp2
        rename_i K hK
        refine hK _ _ ?_
        go_wp2
        go_ret
        exact ⟨by rw [HR.out]; rfl, HBW2.out⟩
       | some n =>
        obtain ⟨n0, n1, n2, n3, n4, n5, n6⟩ := n
        have hq : (Instr.lookup 125 (.map (some bm)) (.string par) false).run Tryz.prog w5 = .ok (.agg #[.int .i64 n0, .int .u32 n1, .int .u32 n2, .int .u32 n3, .int .i64 n4, .int .i64 n5, .string n6]) w5 := by
         have := HM5.ask (t := 125) (kT := 9) (eT := 34) (by kernel_rfl) (by kernel_rfl) (zeroN _) par false
         rw [hf] at this
         exact this
        have HKD : Hid (kindOf l par = n0) := Lib.hid (by rw [hkd, hf]; rfl)
        clear HM5 hf hkd g7
        by_cases g6 : n0 = 1
        ·
         subst g6
         have HN : Hid (SoFar2 l (k + 1)) := Lib.hid (soFar2_next HS.out HX.out (by rw [HV3.out, HKD.out]; rfl) HD.out)
         clear HV3 HS HX
         go_wp2
         rename_i K hK
         refine hK _ _ ?_
         go_wp2
         go_roundw
         case rel => exact ⟨k + 1, by omega, by go_num, HN, HB6⟩
         case measure => simp [intOf]; omega
        ·
         have q6 : (n0 == 1) = false := by simpa using g6
         have HR : Hid (right16 l = false) := Lib.hid (r16_no1 HX.out (by rw [HV3.out, HKD.out]; exact decide_eq_false g6))
         clear HV3 HS HX
         go_wp2
         rename_i K hK
         refine hK _ _ ?_
         go_wp2
         go_ret
         exact ⟨by rw [HR.out]; rfl, HBW2.out⟩
     case true =>
      have g5 : ¬ rr < 0 := by have := of_decide_eq_true hbb; omega
      have HR : Hid (right16 l = false) := Lib.hid (r16_no1 HX.out (by rw [HV2.out rr rfl, decide_eq_false g5, decide_eq_false HK0.out]; rfl))
      have HBW2 : Hid (Below W.heap.size W w5) := Lib.hid (below_next_ HBW.out HB5.out)
      clear HV2 HK0 HS HX f0 HB3 HB5 HBW hbb g5 HG3
      go_wp2
      go_ret
      exact ⟨by rw [HR.out]; rfl, HBW2.out⟩
  ·
   have HR := Lib.hid (soFar2_end HS.out (by omega))
   have HBW := Lib.hid (below_next_ HBU.out HB.out)
   clear HS
   go_wp2
   go_ret
   exact ⟨by rw [HR.out]; rfl, HBW.out⟩
end Go.Proofs.YtibmfjacfbpfgaaGreatDoor.TreeTright
