/- tree: Clone of items; its closures; IndexFunc of items. -/
import Derived.Test.YtibmfjacfbpfgaaGreatDoorSortX
import Derived.Test.YtibmfjacfbpfgaaGreatDoorNameUse
import Derived.Laws.ResultCell
import Derived.Test.YtibmfjacfbpfgaaGreatDoorOwn
import Derived.Laws.CopyRow
import Derived.Laws.IdiomCopy
import Derived.Deep.RegionLaw
import Derived.Lib.Overlaps
import Derived.Laws.Externs
set_option linter.unusedVariables false
set_option linter.unusedSimpArgs false
namespace Go.Proofs.YtibmfjacfbpfgaaGreatDoor.TreeFn
open Go.RowKit YtibmfjacfbpfgaaGreatDoorW.PrintWords YtibmfjacfbpfgaaGreatDoorW.PrintLast YtibmfjacfbpfgaaGreatDoorW.PrintMore YtibmfjacfbpfgaaGreatDoor.Item Own TreeLaw NameLaw NameWalk NameOrd NameRef NameUse SortIns
set_option maxHeartbeats 4000000 in
set_option maxRecDepth 100000 in
theorem clone_some (l : List It) (ad : Addr) (c : Nat) (W : World) (hl : ItemC W (some ad) l) (hn : l.length ≤ 1000000) :
  Calls Tryz.prog 108 #[.slice (some ad) l.length c] W fun e w' => ∃ v1, e = .returned v1 ∧ itemK.R 77 w' W.heap.size (fun _ => True) v1 l ∧ Below W.heap.size W w' := by
 have q66 : ∀ (w : World) (a : Option Addr) (n c n' c' : Nat), (binOp .eql 41 (.slice a n c) (.slice none n' c')).run Tryz.prog w = .ok (.bool a.isNone) w := fun w a n c n' c' => Lib.run_eql_slice_nil w _ _ a n c n' c' Tryz.underlying41
 have HL := Lib.hid hl
 clear hl
 go_enter Tryz.func108, Tryz.ntmps108
 go_wp2_with ((with_reducible refine gate_builtin (b := .append) (xs := #[.tmp 5, .tmp 6]) rfl ?_); at_builtin; generalize hmark : wpList _ _ _ _ _ _ = goal)
 rw [← hmark]
 clear hmark
 refine Kd.R_append_rows itemK (w0 := W) W.heap.size rfl (.tmp 5) (.tmp 6) 41 77 (.agg #[.string ByteArray.empty, .int .i64 0, .int .u32 0, .int .u32 0, .int .u32 0, .int .i64 0, .int .i64 0, .string ByteArray.empty]) 72 rfl Tryz.underlying41 infoItem rfl (by decide) (by decide) _ ([] : List It) l (some ad) l.length c (fun _ => True) (fun _ => False) rfl rfl (Rr := itemK.K W) ?aO ?aR ?aP (fun _ hk => hk.elim) (fun _ _ => trivial) ?aB ?aS ?aL ?_
 case aO => exact ⟨fun _ _ => trivial, [], World.ownsRow_made W #[] 0 (Nat.le_refl _) (Nat.zero_le _) rfl, rfl, fun j p hj => by cases hj⟩
 case aR => exact Kd.C_below HL.out (below_one W _)
 case aP => exact fun x cs h => itemK_K h ▸ itemK_M _ _ _ x
 case aB => exact below_one W _
 case aS => exact (below_one W _).size
 case aL => simp; omega
 intro v1 w1 ho hb hg hat
 have HO := Lib.hid ho
 have HB := Lib.hid hb
 clear ho hb hg hat
 go_wp2
 go_ret
 exact ⟨_, rfl, HO.out, HB.out⟩
theorem clone_none (c : Nat) (W : World) : Calls Tryz.prog 108 #[.slice none 0 c] W fun e w' => e = .returned (.slice none 0 0) ∧ w' = W := by
 have q66 : ∀ (w : World) (a : Option Addr) (n c n' c' : Nat), (binOp .eql 41 (.slice a n c) (.slice none n' c')).run Tryz.prog w = .ok (.bool a.isNone) w := fun w a n c n' c' => Lib.run_eql_slice_nil w _ _ a n c n' c' Tryz.underlying41
 go_enter Tryz.func108, Tryz.ntmps108
 go_wp2
 go_ret
 exact ⟨rfl, rfl⟩
/-- slices.Clone of items: a row of one's own. -/
theorem clone_any (l : List It) (A : Option Addr) (c : Nat) (W : World) (hl : ItemC W A l) (hn : l.length ≤ 1000000) :
  Calls Tryz.prog 108 #[.slice A l.length c] W fun e w' => ∃ v1, e = .returned v1 ∧ itemK.R 77 w' W.heap.size (fun _ => True) v1 l ∧ Below W.heap.size W w' := by
 cases A with
 | some ad => exact clone_some l ad c W hl hn
 | none =>
  have h0 : l = [] := by
   cases l with
   | nil => rfl
   | cons x t => obtain ⟨ad, e, _⟩ := hl.2.2 (by simp); cases e
  subst h0
  refine (clone_none c W).mono ?_
  rintro e w' ⟨rfl, rfl⟩
  exact ⟨_, rfl, Kd.R_nil _ _ _ _ _, Below.refl _ _⟩
/-! ### the closures -/
set_option maxHeartbeats 1000000 in
theorem put1_any (x0 : ByteArray) (x1 x2 x3 x4 x5 x6 : Int) (x7 s : ByteArray) (bc : Nat) (w : World) (hc : w.cell? ⟨bc, 0, none⟩ = some (.string s)) :
  Calls Tryz.prog 112 #[.agg #[.string x0, .int .i64 x1, .int .u32 x2, .int .u32 x3, .int .u32 x4, .int .i64 x5, .int .i64 x6, .string x7], .pointer (some ⟨bc, 0, none⟩)] w fun e w' => e = .returned (.bool (decide (x0 = s))) ∧ Below w.heap.size w w' := by
 have hb1 := below_one w (.cells #[.string x0, .int .i64 x1, .int .u32 x2, .int .u32 x3, .int .u32 x4, .int .i64 x5, .int .i64 x6, .string x7] 77)
 have c1 : (w.alloc (.cells #[.string x0, .int .i64 x1, .int .u32 x2, .int .u32 x3, .int .u32 x4, .int .i64 x5, .int .i64 x6, .string x7] 77)).cell? ⟨w.heap.size, 0, none⟩ = some (.string x0) := by rw [cell_of (heap_new w _)]; rfl
 have c2 : (w.alloc (.cells #[.string x0, .int .i64 x1, .int .u32 x2, .int .u32 x3, .int .u32 x4, .int .i64 x5, .int .i64 x6, .string x7] 77)).cell? ⟨bc, 0, none⟩ = some (.string s) := pw_cell_below hb1 hc
 have HB1 := Lib.hid hb1
 clear hb1 hc
 go_enter Tryz.func112, Tryz.ntmps112
 go_wp2
 go_ret
 refine ⟨?_, HB1.out⟩
 simp only [toList_inj]
 rfl
set_option maxHeartbeats 1000000 in
theorem put2_any (x0 : ByteArray) (x1 x2 x3 x4 x5 x6 : Int) (x7 s : ByteArray) (bc : Nat) (w : World) (hg : Glob w) (h1 : x0.size < 4294967281) (h2 : s.size < 4294967281) (hc : w.cell? ⟨bc, 0, none⟩ = some (.string s)) :
  Calls Tryz.prog 114 #[.agg #[.string x0, .int .i64 x1, .int .u32 x2, .int .u32 x3, .int .u32 x4, .int .i64 x5, .int .i64 x6, .string x7], .pointer (some ⟨bc, 0, none⟩)] w fun e w' => e = .returned (.bool (decide (0 < orderT x0 s))) ∧ Below w.heap.size w w' := by
 have hb1 := below_one w (.cells #[.string x0, .int .i64 x1, .int .u32 x2, .int .u32 x3, .int .u32 x4, .int .i64 x5, .int .i64 x6, .string x7] 77)
 have c1 : (w.alloc (.cells #[.string x0, .int .i64 x1, .int .u32 x2, .int .u32 x3, .int .u32 x4, .int .i64 x5, .int .i64 x6, .string x7] 77)).cell? ⟨w.heap.size, 0, none⟩ = some (.string x0) := by rw [cell_of (heap_new w _)]; rfl
 have c2 : (w.alloc (.cells #[.string x0, .int .i64 x1, .int .u32 x2, .int .u32 x3, .int .u32 x4, .int .i64 x5, .int .i64 x6, .string x7] 77)).cell? ⟨bc, 0, none⟩ = some (.string s) := pw_cell_below hb1 hc
 have HB1 := Lib.hid hb1
 have HC := Lib.hid (order_any x0 s _ (hg.below hb1) h1 h2)
 clear hb1 hc hg
 generalize orderT x0 s = r at *
 go_enter Tryz.func114, Tryz.ntmps114
 go_wp2_with (go_at_call 83; refine HC.out.mono ?_; rintro e w1 ⟨rfl, hb⟩; have HB := Lib.hid (below_next HB1.out hb); clear hb)
 go_ret
 exact ⟨rfl, HB.out⟩
/-! ### IndexFunc -/
/-- A closure over one cell answers p, wherever what was there at U still is. -/
def Asks (U : World) (F bc : Nat) (p : It → Bool) (l : List It) : Prop :=
 (∀ args w, (callFunc F args).run Tryz.prog w = .ok (.enter F args) w) ∧
 ∀ x0 x1 x2 x3 x4 x5 x6 x7, (x0, x1, x2, x3, x4, x5, x6, x7) ∈ l → ∀ W, Below U.heap.size U W → Calls Tryz.prog F #[.agg #[.string x0, .int .i64 x1, .int .u32 x2, .int .u32 x3, .int .u32 x4, .int .i64 x5, .int .i64 x6, .string x7], .pointer (some ⟨bc, 0, none⟩)] W fun e w' => e = .returned (.bool (p (x0, x1, x2, x3, x4, x5, x6, x7))) ∧ Below W.heap.size W w'
theorem Asks.of {U : World} {F bc : Nat} {p : It → Bool} {l m : List It} (h : Asks U F bc p l) (hm : ∀ x ∈ m, x ∈ l) : Asks U F bc p m := ⟨h.1, fun x0 x1 x2 x3 x4 x5 x6 x7 hx W hW => h.2 x0 x1 x2 x3 x4 x5 x6 x7 (hm _ hx) W hW⟩
theorem Asks.later {U W : World} {F bc : Nat} {p : It → Bool} {l : List It} (h : Asks U F bc p l) (hb : Below U.heap.size U W) : Asks W F bc p l := ⟨h.1, fun x0 x1 x2 x3 x4 x5 x6 x7 hx V hV => h.2 x0 x1 x2 x3 x4 x5 x6 x7 hx V (hb.trans (hV.mono hb.size))⟩
def idxP (p : It → Bool) (l : List It) : Int := if l.findIdx p < l.length then (l.findIdx p : Int) else -1
theorem idx_at {p : It → Bool} {l : List It} {k : Nat} (hk : k < l.length) (h : ∀ j (hj : j < k), p (l[j]'(by omega)) = false) (hp : p l[k] = true) : l.findIdx p = k := by
 refine (List.findIdx_eq hk).2 ⟨hp, fun j hj => h j hj⟩
theorem idx_none {p : It → Bool} {l : List It} (h : ∀ j (hj : j < l.length), p l[j] = false) : l.findIdx p = l.length := by
 refine List.findIdx_eq_length.2 (fun x hx => ?_)
 obtain ⟨j, hj, e⟩ := List.mem_iff_getElem.1 hx
 rw [← e]; exact h j hj
set_option maxHeartbeats 2000000 in
theorem index_any (F bc : Nat) (p : It → Bool) (l : List It) (A : Option Addr) (c : Nat) (W : World) (hl : ItemC W A l) (hp : Asks W F bc p l) :
  Calls Tryz.prog 113 #[.slice A l.length c, .func (.func F) #[] #[.pointer (some ⟨bc, 0, none⟩)]] W fun e w' => e = .returned (.int .i64 (idxP p l)) ∧ Below W.heap.size W w' := by
 have HL := Lib.hid hl
 have l1 := hl.2.1
 have eg := hp.1
 have HP := Lib.hid hp.2
 have HK0 : Hid (∀ j (hj : j < l.length), j < 0 → p l[j] = false) := Lib.hid (fun j hj h => absurd h (Nat.not_lt_zero _))
 clear hl hp
 go_enter Tryz.func113, Tryz.ntmps113
 go_wp2
 go_loopw [5, 8] (fun vi v wr => ∃ k : Nat, k ≤ l.length ∧ v = .int .i64 k ∧ Hid (∀ j (hj : j < l.length), j < k → p l[j] = false) ∧ Hid (Below W.heap.size W wr)) (fun vi v _ => l.length - (intOf v).toNat)
 case atStart => exact ⟨0, by omega, rfl, HK0, Lib.hid (Below.refl _ _)⟩
 case round =>
  clear HK0
  obtain ⟨k, hk, rfl, HK, HB⟩ := hrel
  by_cases hlt : k < l.length
  ·
   obtain ⟨ad, rfl, e0, e1, e2, e3, e4, e5, e6, e7⟩ := item_at (Kd.C_below HL.out HB.out) hlt
   have hltI : (k : Int) < l.length := by omega
   have hc := HP.out l[k].1 l[k].2.1 l[k].2.2.1 l[k].2.2.2.1 l[k].2.2.2.2.1 l[k].2.2.2.2.2.1 l[k].2.2.2.2.2.2.1 l[k].2.2.2.2.2.2.2 (List.getElem_mem hlt) wr HB.out
   have hpx : Hid (∃ q, q = p l[k]) := Lib.hid ⟨_, rfl⟩
   have HX : Hid (l[k] = l[k]) := Lib.hid rfl
   obtain ⟨x, hx⟩ : ∃ x, x = l[k] := ⟨_, rfl⟩
   rw [← hx] at e0 e1 e2 e3 e4 e5 e6 e7 hc
   have HXK := Lib.hid hx
   clear hx hpx HX
   obtain ⟨x0, x1, x2, x3, x4, x5, x6, x7⟩ := x
   simp only at e0 e1 e2 e3 e4 e5 e6 e7 hc
   obtain ⟨q, hq⟩ : ∃ q, q = p (x0, x1, x2, x3, x4, x5, x6, x7) := ⟨_, rfl⟩
   rw [← hq] at hc
   have HQ := Lib.hid hq
   have HC := Lib.hid hc
   clear hc hq
   cases q with
   | true =>
    have HI : Hid (idxP p l = (k : Int)) := Lib.hid (by
     have e := idx_at hlt (fun j hj => HK.out j (by omega) hj) (by rw [← HXK.out]; exact HQ.out.symm)
     unfold idxP
     rw [e, if_pos hlt])
    go_wp2_with (go_at_fn F; refine HC.out.mono ?_; rintro e w1 ⟨rfl, hb⟩; have HB1 := Lib.hid (below_next HB.out hb); clear hb)
    go_ret
    exact ⟨by rw [HI.out]; rfl, HB1.out⟩
   | false =>
    have HK1 : Hid (∀ j (hj : j < l.length), j < k + 1 → p l[j] = false) := Lib.hid (fun j hj h => by
     rcases Nat.lt_or_ge j k with h2 | h2
     ·
      exact HK.out j hj h2
     ·
      have : j = k := by omega
      subst this
      rw [← HXK.out]; exact HQ.out.symm)
    clear HXK HK HQ
    go_wp2_with (go_at_fn F; refine HC.out.mono ?_; rintro e w1 ⟨rfl, hb⟩; have HB1 := Lib.hid (below_next HB.out hb); clear hb)
    go_roundw
    case rel => exact ⟨k + 1, by omega, by go_num, HK1, HB1⟩
    case measure => simp [intOf]; omega
  ·
   have HI : Hid (idxP p l = -1) := Lib.hid (by
    have e := idx_none (p := p) (l := l) (fun j hj => HK.out j hj (by omega))
    unfold idxP
    rw [e, if_neg (Nat.lt_irrefl _)])
   go_wp2
   go_ret
   exact ⟨by rw [HI.out]; rfl, HB.out⟩
end Go.Proofs.YtibmfjacfbpfgaaGreatDoor.TreeFn
/- rows of items of one's own, cell by cell: what they hold as a list of cells; stores, copies, clears into them; append of make. -/
namespace Go.Proofs.YtibmfjacfbpfgaaGreatDoor.Raw
open Go.RowKit YtibmfjacfbpfgaaGreatDoorW.PrintWords YtibmfjacfbpfgaaGreatDoorW.PrintLast YtibmfjacfbpfgaaGreatDoorW.PrintMore YtibmfjacfbpfgaaGreatDoor.Item Own
def flat (l : List It) : List Value := l.flatMap cellsI
theorem cellsI_len (x : It) : (cellsI x).length = 8 := rfl
theorem flat_nil : flat [] = [] := rfl
theorem flat_cons (x : It) (l : List It) : flat (x :: l) = cellsI x ++ flat l := rfl
theorem flat_append (l m : List It) : flat (l ++ m) = flat l ++ flat m := List.flatMap_append
theorem flat_len : ∀ l : List It, (flat l).length = l.length * 8
 | [] => rfl
 | x :: l => by rw [flat_cons, List.length_append, cellsI_len, flat_len l, List.length_cons]; omega
theorem flat_take (l : List It) (k : Nat) : (flat l).take (k * 8) = flat (l.take k) := by
 induction l generalizing k with
 | nil => simp [flat_nil]
 | cons x l ih =>
  cases k with
  | zero => simp [flat_nil]
  | succ k =>
   rw [flat_cons, List.take_succ_cons, flat_cons, show (k + 1) * 8 = (cellsI x).length + k * 8 by rw [cellsI_len]; omega, List.take_length_add_append, ih]
theorem flat_drop (l : List It) (k : Nat) : (flat l).drop (k * 8) = flat (l.drop k) := by
 induction l generalizing k with
 | nil => simp [flat_nil]
 | cons x l ih =>
  cases k with
  | zero => simp
  | succ k =>
   rw [flat_cons, List.drop_succ_cons, show (k + 1) * 8 = (cellsI x).length + k * 8 by rw [cellsI_len]; omega, List.drop_length_add_append, ih]
theorem flat_uniq : ∀ (l : List It) (inner : List Value), inner.length = l.length * 8 → (∀ q p, l[q]? = some p → (inner.drop (q * 8)).take 8 = cellsI p) → inner = flat l
 | [], inner, h, _ => List.eq_nil_of_length_eq_zero (by simpa using h)
 | x :: l, inner, h, hq => by
  have h0 := hq 0 x rfl
  rw [Nat.zero_mul, List.drop_zero] at h0
  have ih := flat_uniq l (inner.drop 8) (by rw [List.length_drop, h, List.length_cons]; omega) (fun q p hp => by
   have := hq (q + 1) p (by simpa using hp)
   rw [List.drop_drop, show 8 + q * 8 = (q + 1) * 8 by omega]
   exact this)
  rw [flat_cons, ← ih, ← h0, List.take_append_drop]
theorem flat_at (l : List It) {q : Nat} {p : It} (h : l[q]? = some p) : ((flat l).drop (q * 8)).take 8 = cellsI p := by
 obtain ⟨hq, e⟩ := List.getElem?_eq_some_iff.1 h
 rw [flat_drop, List.drop_eq_getElem_cons hq, e, flat_cons, List.take_append_of_le_length (by rw [cellsI_len]; exact Nat.le_refl _), List.take_of_length_le (by rw [cellsI_len]; exact Nat.le_refl _)]
theorem cellsI_one (x : It) : ∀ v ∈ cellsI x, v.oneCell' = true := by
 intro v hv
 simp only [cellsI, List.mem_cons, List.not_mem_nil, or_false] at hv
 rcases hv with rfl | rfl | rfl | rfl | rfl | rfl | rfl | rfl <;> rfl
theorem flat_one (l : List It) : ∀ v ∈ flat l, v.oneCell' = true := by
 intro v hv
 obtain ⟨x, _, hx⟩ := List.mem_flatMap.1 hv
 exact cellsI_one x v hx
/-- The block of a row: its cells, all there is room for. -/
structure RawAt (W : World) (n g c : Nat) (cur : List Value) : Prop where
 blk : W.heap[g]? = some (.cells cur.toArray 77 (0, 0))
 size : cur.length = c * 8
 cap : c ≤ maxLen
 base : n ≤ g
theorem Row.raw {W : World} {n g N c : Nat} {l : List It} (h : Row W n g N c l) : ∃ cur, RawAt W n g c cur ∧ N ≤ c ∧ cur.take (N * 8) = flat l := by
 obtain ⟨hN, hok, inner, ⟨hil, hown⟩, hr⟩ := h
 rcases hown with ⟨e, _⟩ | ⟨g', cap, cur, e, hb, hh, h1, h2, h3, h4⟩
 ·
  cases e
 ·
  injection e with e1 e2 e3
  injection e1 with e1
  injection e1 with e1
  subst e1 e3
  have hin : inner = flat l := flat_uniq l inner hil (fun q p hq => itemK_K (itemK.K_of_M (hr.2 q p hq)))
  subst hN
  refine ⟨cur.toList, ⟨by simpa using hh, by rw [Array.length_toList]; exact h3, h2, hb⟩, h1, ?_⟩
  rw [← hin]; exact h4
theorem Row.ofRaw {W : World} {n g N c : Nat} {l : List It} {cur : List Value} (h : RawAt W n g c cur) (hN : l.length = N) (hc : N ≤ c) (he : cur.take (N * 8) = flat l) : Row W n g N c l := by
 subst hN
 refine ⟨rfl, fun _ _ => trivial, flat l, ⟨flat_len l, .inr ⟨g, c, cur.toArray, rfl, h.base, h.blk, hc, h.cap, by rw [List.size_toArray]; exact h.size, ?_⟩⟩, flat_len l, fun q p hq => ?_⟩
 ·
  rw [List.toList_toArray]; exact he
 ·
  show itemK.M _ _ _ p (((flat l).drop (q * 8)).take 8)
  rw [flat_at l hq]
  exact itemK_M _ _ _ _
theorem RawAt.cell {W : World} {n g c : Nat} {cur : List Value} (h : RawAt W n g c cur) (j : Nat) : W.cell? ⟨g, j, none⟩ = cur[j]? := by
 rw [cell_of h.blk]; simp
/-- cells are laid into the row, from cell o on. -/
def laid (cur vs : List Value) (o : Nat) : List Value := cur.take o ++ vs ++ cur.drop (o + vs.length)
theorem laid_len {cur vs : List Value} {o : Nat} (h : o + vs.length ≤ cur.length) : (laid cur vs o).length = cur.length := by
 unfold laid
 simp only [List.length_append, List.length_take, List.length_drop]
 omega
theorem RawAt.lay {W : World} {n g c : Nat} {cur vs : List Value} {o : Nat} (h : RawAt W n g c cur) (ho : o + vs.length ≤ cur.length) : RawAt (W.setRow g (laid cur vs o).toArray) n g c (laid cur vs o) ∧ W.grownBy (W.setRow g (laid cur vs o).toArray) (some g) := by
 refine ⟨⟨setRow_heap W g _ _ _ _ h.blk, by rw [laid_len ho]; exact h.size, h.cap, h.base⟩, ⟨rfl, rfl, rfl, by simp [World.setRow], fun k _ hk => setRow_other W g k _ (fun e => hk (by rw [e]))⟩⟩
theorem run_store_raw {W : World} {n g c : Nat} {cur : List Value} (h : RawAt W n g c cur) (vs : List Value) (o : Nat) (ho : o + vs.length ≤ cur.length) (h1 : ∀ v ∈ vs, v.oneCell' = true) :
  (storeCells ⟨g, o, none⟩ vs 0).run Tryz.prog W = .ok () (W.setRow g (laid cur vs o).toArray) := by
 have := run_storeCells_at Tryz.prog g o 77 vs 0 cur.toArray W h.blk (by simpa using ho) h1
 simpa [laid] using this
theorem itemInfo : ∃ i0 : TypeInfo, Tryz.prog.info? 77 = some i0 ∧ i0.zero = some (.agg #[.string ByteArray.empty, .int .i64 0, .int .u32 0, .int .u32 0, .int .u32 0, .int .i64 0, .int .i64 0, .string ByteArray.empty]) ∧ i0.size = 8 ∧ i0.bytes = 72 := by
 obtain ⟨i0, hi, hzz⟩ := Option.map_eq_some_iff.1 infoItem
 simp only [Prod.mk.injEq] at hzz
 exact ⟨i0, hi, hzz.1, hzz.2.1, hzz.2.2⟩
/-- copy into the row: cs is what the source held. -/
theorem run_copy_raw {W : World} {n g c : Nat} {cur : List Value} (h : RawAt W n g c cur) {dT sT ty : TypeId} (hu : Tryz.prog.underlying dT = some (.slice 77)) (o dLen dCap : Nat) (a : Addr) (sLen sCap : Nat) (cs : List Value) (hn : cs.length = Nat.min sLen dLen * 8)
  (hsrc : ∀ j v, cs[j]? = some v → W.cell? (a.add j) = some v) (ho : o + cs.length ≤ cur.length) (h1 : ∀ v ∈ cs, v.oneCell' = true) :
  (Builtin.copy_ #[dT, sT] ty #[.slice (some ⟨g, o, none⟩) dLen dCap, .slice (some a) sLen sCap]).run Tryz.prog W = .ok (goInt (Nat.min sLen dLen)) (W.setRow g (laid cur cs o).toArray) := by
 have hl := run_loadCells_list (P := Tryz.prog) W a cs hsrc
 have hst := run_store_raw h cs o ho h1
 obtain ⟨i0, hi, hz, hs, hb⟩ := itemInfo
 have hm : Nat.min sLen dLen * i0.size = cs.length := by rw [hs, hn]
 simp [Builtin.copy_, run_underlying hu, Builtin.lenOf, Builtin.firstCells, sizeOf, typeInfo, hi, hm, hl, hst]
theorem copy_exec {W W1 : World} {a : Act} {oi : Oper} {d s : Operand} {dT sT : TypeId} {vd vs v : Value} (hop : oi.op = .call { callee := .builtin .copy, args := #[d, s], argTypes := #[dT, sT] }) (hd : a.eval d = vd) (hs : a.eval s = vs)
  (hrun : (Builtin.copy_ #[dT, sT] oi.type #[vd, vs]).run Tryz.prog W = .ok v W1) : (execOp a.eval oi).run Tryz.prog W = .ok (.value v) W1 := by
 unfold execOp
 simp only [hop, resolve, invoke, builtin, Sem.run_bind, Sem.run_pure, Result.andThen_ok, List.map_toArray, List.map_cons, List.map_nil, hd, hs, hrun]
theorem copy_by_run {P : Program} {ops : Array Oper} {rest : List Oper} {o : Oper} {a : Act} {Q : Exit → Act → World → Prop} {W w1 : World} {v u v1 : Value} {t1 t2 : TypeId} (hgd : o.guard = none) (s x : Operand)
  (ho : o.op = .call { callee := .builtin .copy, args := #[s, x], argTypes := #[t1, t2] }) (hs : a.eval s = v) (hx : a.eval x = u) (hrun : (Builtin.copy_ #[t1, t2] o.type #[v, u]).run P W = .ok v1 w1)
  (h : wpList P ops Q rest (a.put o.dst v1) w1) : wpList P ops Q (o :: rest) a W := by
 refine wpList_plain hgd fun K hK => ?_
 unfold Oper.wp execOp
 simp only [ho, resolve, invoke, builtin, Sem.run_bind, Sem.run_pure, Result.andThen_ok, List.map_toArray, List.map_cons, List.map_nil, hs, hx, hrun]
 exact hK _ _ h
theorem append_by_run {P : Program} {ops : Array Oper} {rest : List Oper} {o : Oper} {a : Act} {Q : Exit → Act → World → Prop} {W w1 : World} {v u v1 : Value} {t1 t2 : TypeId} (hgd : o.guard = none) (s x : Operand)
  (ho : o.op = .call { callee := .builtin .append, args := #[s, x], argTypes := #[t1, t2] }) (hs : a.eval s = v) (hx : a.eval x = u) (hrun : (Builtin.append_ #[t1, t2] o.type #[v, u]).run P W = .ok v1 w1)
  (h : wpList P ops Q rest (a.put o.dst v1) w1) : wpList P ops Q (o :: rest) a W := by
 refine wpList_plain hgd fun K hK => ?_
 unfold Oper.wp execOp
 simp only [ho, resolve, invoke, builtin, Sem.run_bind, Sem.run_pure, Result.andThen_ok, List.map_toArray, List.map_cons, List.map_nil, hs, hx, hrun]
 exact hK _ _ h
theorem clear_by_run {P : Program} {ops : Array Oper} {rest : List Oper} {o : Oper} {a : Act} {Q : Exit → Act → World → Prop} {W w1 : World} {u v1 : Value} {t1 : TypeId} (hgd : o.guard = none) (x : Operand)
  (ho : o.op = .call { callee := .builtin .clear, args := #[x], argTypes := #[t1] }) (hx : a.eval x = u) (hrun : (Builtin.clear_ #[t1] o.type #[u]).run P W = .ok v1 w1)
  (h : wpList P ops Q rest (a.put o.dst v1) w1) : wpList P ops Q (o :: rest) a W := by
 refine wpList_plain hgd fun K hK => ?_
 unfold Oper.wp execOp
 simp only [ho, resolve, invoke, builtin, Sem.run_bind, Sem.run_pure, Result.andThen_ok, List.map_toArray, List.map_cons, List.map_nil, hx, hrun]
 exact hK _ _ h
/-- A store of an item, in a plain region. -/
theorem store_by_run {ops : Array Oper} {rest : List Oper} {o : Oper} {a : Act} {Q : Exit → Act → World → Prop} {W : World} {n g c k N : Nat} {s : List It} {z : It} {ad : Addr} {p v : Operand} (y : It) (hgd : o.guard = none) (hop : o.op = .store 77 p v) (hdst : o.dst = none) (hp : a.eval p = .pointer (some (ad.add (k * 8)))) (hv : a.eval v = .agg (cellsI y).toArray) (had : ad = ⟨g, 0, none⟩)
  (h : Row W n g N c s) (hz : s[k]? = some z) (hk : wpList Tryz.prog ops Q rest a (W.setCells g (k * 8) (cellsI y))) : wpList Tryz.prog ops Q (o :: rest) a W := by
 refine wpList_plain hgd fun K hK => ?_
 unfold Oper.wp
 rw [store_item y hop hp hv had h hz]
 show K (a.put o.dst undef) _
 rw [hdst]
 exact hK _ _ hk
def zc (m : Nat) : List Value := (Builtin.zeroCells (Value.agg #[.string ByteArray.empty, .int .i64 0, .int .u32 0, .int .u32 0, .int .u32 0, .int .i64 0, .int .i64 0, .string ByteArray.empty]).cells m).toList
theorem zc_len (m : Nat) : (zc m).length = m * 8 := by
 unfold zc
 rw [Array.length_toList, size_zeroCells]; rfl
theorem zc_one (m : Nat) : ∀ v ∈ zc m, v.oneCell' = true := by
 intro v hv
 unfold zc Builtin.zeroCells at hv
 rw [Array.toList_map] at hv
 obtain ⟨i, _, rfl⟩ := List.mem_map.1 hv
 have : i % 8 < 8 := Nat.mod_lt _ (by omega)
 show (#[Value.string ByteArray.empty, .int .i64 0, .int .u32 0, .int .u32 0, .int .u32 0, .int .i64 0, .int .i64 0, .string ByteArray.empty][i % 8]!).oneCell' = true
 generalize i % 8 = r at *
 match r, this with
 | 0, _ => rfl
 | 1, _ => rfl
 | 2, _ => rfl
 | 3, _ => rfl
 | 4, _ => rfl
 | 5, _ => rfl
 | 6, _ => rfl
 | 7, _ => rfl
/-- What lies behind a place is cleared. -/
theorem run_clear_raw {W : World} {n g c : Nat} {cur : List Value} (h : RawAt W n g c cur) {t ty : TypeId} (hu : Tryz.prog.underlying t = some (.slice 77)) (i m cap : Nat) (hm : 0 < m) (ho : (i + m) * 8 ≤ cur.length) :
  (Builtin.clear_ #[t] ty #[.slice (some ⟨g, i * 8, none⟩) m cap]).run Tryz.prog W = .ok (.tuple #[]) (W.setRow g (laid cur (zc m) (i * 8)).toArray) := by
 have hst := run_store_raw h (zc m) (i * 8) (by rw [zc_len]; omega) (zc_one m)
 obtain ⟨i0, hi, hz, hs, hb⟩ := itemInfo
 obtain ⟨z, hz1, hz2⟩ : ∃ z, i0.zero = some z ∧ (Builtin.zeroCells z.cells m).toList = zc m := ⟨_, hz, rfl⟩
 clear hz
 generalize zc m = zs at *
 obtain ⟨m, rfl⟩ : ∃ k, m = k + 1 := ⟨m - 1, by omega⟩
 simp [Builtin.clear_, run_underlying hu, zeroValue, typeInfo, hi, hz1, hz2, hst]
end Go.Proofs.YtibmfjacfbpfgaaGreatDoor.Raw
/- tree: slices.DeleteFunc of items. -/
namespace Go.Proofs.YtibmfjacfbpfgaaGreatDoor.TreeDel
open Go.RowKit YtibmfjacfbpfgaaGreatDoorW.PrintWords YtibmfjacfbpfgaaGreatDoorW.PrintLast YtibmfjacfbpfgaaGreatDoorW.PrintMore YtibmfjacfbpfgaaGreatDoor.Item Own Raw TreeLaw NameWalk SortSwap SortIns TreeFn
/-- How far it has come: i are kept of the first j, what stands behind j is as it was. -/
structure Kept (p : It → Bool) (l d : List It) (i j : Nat) : Prop where
 len : d.length = l.length
 lt : i < j
 le : j ≤ l.length
 head : d.take i = (l.take j).filter (fun x => !p x)
 tail : d.drop j = l.drop j
theorem Kept.start {p : It → Bool} {l : List It} {i : Nat} (hi : i < l.length) (h : ∀ k (hk : k < i), p (l[k]'(by omega)) = false) (hp : p l[i] = true) : Kept p l l i (i + 1) where
 len := rfl
 lt := by omega
 le := hi
 head := by
  rw [← List.take_append_getElem hi, List.filter_append, List.filter_cons_of_neg (by simp [hp]), List.filter_nil, List.append_nil]
  refine (List.filter_eq_self.2 (fun x hx => ?_)).symm
  obtain ⟨k, hk, e⟩ := List.mem_iff_getElem.1 hx
  rw [List.length_take] at hk
  have hki : k < i := by omega
  rw [List.getElem_take] at e
  rw [← e, h k hki]; rfl
 tail := rfl
theorem Kept.at {p : It → Bool} {l d : List It} {i j : Nat} (h : Kept p l d i j) (hj : j < l.length) : d[j]? = some l[j] := by
 have := h.tail
 rw [List.drop_eq_getElem_cons hj] at this
 have h2 : (d.drop j)[0]? = some l[j] := by rw [this]; rfl
 rw [List.getElem?_drop, Nat.add_zero] at h2
 exact h2
theorem Kept.skip {p : It → Bool} {l d : List It} {i j : Nat} (h : Kept p l d i j) (hj : j < l.length) (hp : p l[j] = true) : Kept p l d i (j + 1) where
 len := h.len
 lt := by have := h.lt; omega
 le := hj
 head := by
  rw [h.head, ← List.take_append_getElem hj, List.filter_append, List.filter_cons_of_neg (by simp [hp]), List.filter_nil, List.append_nil]
 tail := by
  rw [← List.drop_drop, h.tail, List.drop_drop]
theorem Kept.keep {p : It → Bool} {l d : List It} {i j : Nat} (h : Kept p l d i j) (hj : j < l.length) (hp : p l[j] = false) : Kept p l (d.set i l[j]) (i + 1) (j + 1) where
 len := by rw [List.length_set]; exact h.len
 lt := by have := h.lt; omega
 le := hj
 head := by
  have hi : i < d.length := by have := h.lt; have := h.len; omega
  have hi2 : i < (d.set i l[j]).length := by rw [List.length_set]; exact hi
  rw [← List.take_append_getElem hi2, List.getElem_set_self, List.take_set, List.set_eq_of_length_le (by rw [List.length_take]; omega), h.head, ← List.take_append_getElem hj, List.filter_append, List.filter_cons_of_pos (by simp [hp]), List.filter_nil]
 tail := by
  rw [List.drop_set, if_pos (by have := h.lt; omega), ← List.drop_drop, h.tail, List.drop_drop]
theorem Kept.done {p : It → Bool} {l d : List It} {i : Nat} (h : Kept p l d i l.length) : d.take i = l.filter (fun x => !p x) := by
 rw [h.head, List.take_length]
theorem row_front {W : World} {n g N c i : Nat} {d : List It} {cur vs : List Value} (h : RawAt W n g c cur) (hN : d.length = N) (hi : i ≤ N) (hc : N ≤ c) (he : cur.take (N * 8) = flat d) (hv : i * 8 + vs.length ≤ cur.length) : Row (W.setRow g (laid cur vs (i * 8)).toArray) n g i c (d.take i) := by
 refine Row.ofRaw (h.lay hv).1 (by rw [List.length_take]; omega) (by omega) ?_
 rw [← flat_take, ← he, List.take_take, Nat.min_eq_left (by omega)]
 unfold laid
 rw [List.append_assoc, List.take_append_of_le_length (by rw [List.length_take]; omega), List.take_take, Nat.min_self]
theorem idx_lt {p : It → Bool} {l : List It} (h : l.findIdx p < l.length) : p l[l.findIdx p] = true ∧ ∀ k (hk : k < l.findIdx p), p (l[k]'(by omega)) = false := ⟨List.findIdx_getElem, fun k hk => by simpa using List.not_of_lt_findIdx hk⟩
theorem idx_not {p : It → Bool} {l : List It} (h : ¬ l.findIdx p < l.length) : l.filter (fun x => !p x) = l := by
 refine List.filter_eq_self.2 (fun x hx => ?_)
 have hle : l.findIdx p = l.length := Nat.le_antisymm (List.findIdx_le_length) (by omega)
 have := List.findIdx_eq_length.1 hle x hx
 rw [this]; rfl
theorem below_next_ {U W W1 : World} (h : Below U.heap.size U W) (k : Below W.heap.size W W1) : Below U.heap.size U W1 := h.trans (k.mono h.size)
set_option maxHeartbeats 8000000 in
set_option maxRecDepth 100000 in
theorem delete_row (W0 : World) (F bc g N c : Nat) (p : It → Bool) (l : List It) (W : World) (hN : N ≤ 1000000) (hB : Below W0.heap.size W0 W) (h : Row W W0.heap.size g N c l) (hp : Asks W0 F bc p l) :
  Calls Tryz.prog 111 #[.slice (some ⟨g, 0, none⟩) N c, .func (.func F) #[] #[.pointer (some ⟨bc, 0, none⟩)]] W fun e w' => e = .returned (.slice (some ⟨g, 0, none⟩) (l.filter (fun x => !p x)).length c) ∧ Row w' W0.heap.size g (l.filter (fun x => !p x)).length c (l.filter (fun x => !p x)) ∧ Below W0.heap.size W0 w' := by
 obtain ⟨ad, had⟩ : ∃ ad : Addr, ad = ⟨g, 0, none⟩ := ⟨_, rfl⟩
 have HN0 := h.1
 have HRD := h.read
 have hI := index_any F bc p l (some ⟨g, 0, none⟩) c W HRD (hp.later hB)
 rw [HN0] at hI
 rw [← had] at hI ⊢
 have HI := Lib.hid hI
 have HAD := Lib.hid had
 have HNG := Lib.hid h.base
 have HB := Lib.hid hB
 have HP := Lib.hid hp.2
 have eg := hp.1
 have HR := Lib.hid h
 have HLN := Lib.hid HN0
 clear had hI hB hp h HRD
 by_cases hx : l.findIdx p < l.length
 ·
  obtain ⟨i0, hi0⟩ : ∃ i0, i0 = l.findIdx p := ⟨_, rfl⟩
  have e1 : idxP p l = (i0 : Int) := by unfold idxP; rw [if_pos hx, hi0]
  rw [e1] at HI
  have hiN : i0 < N := by omega
  have HK0 : Hid (Kept p l l i0 (i0 + 1)) := Lib.hid (by
   have := idx_lt hx
   rw [← hi0] at hx
   exact Kept.start hx (fun k hk => this.2 k (by omega)) (by
    have := this.1
    simp only [← hi0] at this
    exact this))
  have q0 : ((i0 : Int) == (-1)) = false := beq_eq_false_iff_ne.2 (by omega)
  obtain ⟨Fu, hFu⟩ : ∃ Fu, Fu = N := ⟨_, rfl⟩
  have hFN : N ≤ i0 + 1 + Fu := by omega
  clear hi0 e1 hx HN0 hFu
  go_enter Tryz.func111, Tryz.ntmps111
  go_wp2_with (go_at_call 113; refine HI.out.mono ?_; rintro e w1 ⟨rfl, hb⟩; have HB1 := Lib.hid (below_next_ HB.out hb); have HR1 := Lib.hid (HR.out.below hb); clear hb HR HB HI)
  go_loopg [5, 6, 7] Fu (fun gg vi vj vt wr => ∃ i j : Nat, vi = .int .i64 i ∧ vj = .int .i64 j ∧ i < N ∧ j ≤ N ∧ i < j ∧ N ≤ j + gg ∧ Hid (∃ d, Kept p l d i j ∧ Row wr W0.heap.size g N c d) ∧ Hid (Below W0.heap.size W0 wr))
  case atStart => exact ⟨i0, i0 + 1, rfl, by go_num, hiN, hiN, by omega, hFN, Lib.hid ⟨l, HK0.out, HR1.out⟩, HB1⟩
  case round =>
   clear HK0 HR1 HB1 hFN
   obtain ⟨i, j, rfl, rfl, hiN, hjN, hij, hjg, HS, HB⟩ := hrel
   obtain ⟨d, hk, hR⟩ := HS.out
   have HK := Lib.hid hk
   have HR := Lib.hid hR
   clear hk hR HS
   by_cases hlt : j < N
   ·
    have hltI : (j : Int) < (N : Int) := by omega
    have hjl : j < l.length := by rw [HLN.out]; exact hlt
    obtain ⟨x, hxj⟩ : ∃ x, x = l[j] := ⟨_, rfl⟩
    have HXJ := Lib.hid hxj
    have hdj := HK.out.at hjl
    rw [← hxj] at hdj
    have hmem : x ∈ l := by rw [hxj]; exact List.getElem_mem hjl
    obtain ⟨x0, x1, x2, x3, x4, x5, x6, x7⟩ := x
    obtain ⟨e0, e1, e2, e3, e4, e5, e6, e7⟩ := row_load HR.out HAD.out hdj
    simp only at e0 e1 e2 e3 e4 e5 e6 e7
    have hb3 := below_one wr (.cells #[.string x0, .int .i64 x1, .int .u32 x2, .int .u32 x3, .int .u32 x4, .int .i64 x5, .int .i64 x6, .string x7] 77)
    have HB3 := Lib.hid (below_next_ HB.out hb3)
    have HR3 := Lib.hid (HR.out.below hb3)
    have HI3 := Lib.hid (heap_alloc_new wr (.cells #[.string x0, .int .i64 x1, .int .u32 x2, .int .u32 x3, .int .u32 x4, .int .i64 x5, .int .i64 x6, .string x7] 77))
    have c0 : (wr.alloc (.cells #[.string x0, .int .i64 x1, .int .u32 x2, .int .u32 x3, .int .u32 x4, .int .i64 x5, .int .i64 x6, .string x7] 77)).cell? ⟨wr.heap.size, 0, none⟩ = some (.string x0) := by rw [cell_of HI3.out]; rfl
    have c1 : (wr.alloc (.cells #[.string x0, .int .i64 x1, .int .u32 x2, .int .u32 x3, .int .u32 x4, .int .i64 x5, .int .i64 x6, .string x7] 77)).cell? ⟨wr.heap.size, 1, none⟩ = some (.int .i64 x1) := by rw [cell_of HI3.out]; rfl
    have c2 : (wr.alloc (.cells #[.string x0, .int .i64 x1, .int .u32 x2, .int .u32 x3, .int .u32 x4, .int .i64 x5, .int .i64 x6, .string x7] 77)).cell? ⟨wr.heap.size, 2, none⟩ = some (.int .u32 x2) := by rw [cell_of HI3.out]; rfl
    have c3 : (wr.alloc (.cells #[.string x0, .int .i64 x1, .int .u32 x2, .int .u32 x3, .int .u32 x4, .int .i64 x5, .int .i64 x6, .string x7] 77)).cell? ⟨wr.heap.size, 3, none⟩ = some (.int .u32 x3) := by rw [cell_of HI3.out]; rfl
    have c4 : (wr.alloc (.cells #[.string x0, .int .i64 x1, .int .u32 x2, .int .u32 x3, .int .u32 x4, .int .i64 x5, .int .i64 x6, .string x7] 77)).cell? ⟨wr.heap.size, 4, none⟩ = some (.int .u32 x4) := by rw [cell_of HI3.out]; rfl
    have c5 : (wr.alloc (.cells #[.string x0, .int .i64 x1, .int .u32 x2, .int .u32 x3, .int .u32 x4, .int .i64 x5, .int .i64 x6, .string x7] 77)).cell? ⟨wr.heap.size, 5, none⟩ = some (.int .i64 x5) := by rw [cell_of HI3.out]; rfl
    have c6 : (wr.alloc (.cells #[.string x0, .int .i64 x1, .int .u32 x2, .int .u32 x3, .int .u32 x4, .int .i64 x5, .int .i64 x6, .string x7] 77)).cell? ⟨wr.heap.size, 6, none⟩ = some (.int .i64 x6) := by rw [cell_of HI3.out]; rfl
    have c7 : (wr.alloc (.cells #[.string x0, .int .i64 x1, .int .u32 x2, .int .u32 x3, .int .u32 x4, .int .i64 x5, .int .i64 x6, .string x7] 77)).cell? ⟨wr.heap.size, 7, none⟩ = some (.string x7) := by rw [cell_of HI3.out]; rfl
    have hc := HP.out x0 x1 x2 x3 x4 x5 x6 x7 hmem _ HB3.out
    obtain ⟨q, hq⟩ : ∃ q, q = p (x0, x1, x2, x3, x4, x5, x6, x7) := ⟨_, rfl⟩
    rw [← hq] at hc
    have HQ := Lib.hid hq
    have HC := Lib.hid hc
    clear hc hq hxj hdj hmem hb3 HR HB
    cases q with
    | true =>
     have HK2 : Hid (Kept p l d i (j + 1)) := Lib.hid (HK.out.skip hjl (by rw [← HXJ.out]; exact HQ.out.symm))
     clear HK HXJ HQ
     go_wp2_with (go_at_fn F; refine HC.out.mono ?_; rintro e w4 ⟨rfl, hb4⟩; have HB4 := Lib.hid (below_next_ HB3.out hb4); have HR4 := Lib.hid (HR3.out.below hb4); clear hb4)
     go_roundg (gk - 1)
     case measure => omega
     case rel => exact ⟨i, j + 1, rfl, by go_num, hiN, by omega, by omega, by omega, Lib.hid ⟨d, HK2.out, HR4.out⟩, HB4⟩
    | false =>
     have HK2 : Hid (Kept p l (d.set i (x0, x1, x2, x3, x4, x5, x6, x7)) (i + 1) (j + 1)) := Lib.hid (by
      have := HK.out.keep hjl (by rw [← HXJ.out]; exact HQ.out.symm)
      rw [← HXJ.out] at this
      exact this)
     obtain ⟨z, hz⟩ : ∃ z, d[i]? = some z := ⟨_, List.getElem?_eq_getElem (by have := HK.out.len; have := HLN.out; omega)⟩
     have HZ := Lib.hid hz
     clear HK HXJ HQ hz
     go_wp2_with fail
     generalize wr.alloc (.cells #[.string x0, .int .i64 x1, .int .u32 x2, .int .u32 x3, .int .u32 x4, .int .i64 x5, .int .i64 x6, .string x7] 77) = w3 at *
     generalize wr.heap.size = b7 at *
     clear c0 c1 c2 c3 c4 c5 c6 c7 e0 e1 e2 e3 e4 e5 e6 e7
     go_at_fn F
     refine HC.out.mono ?_
     rintro e w4 ⟨rfl, hb4⟩
     have HB4 := Lib.hid (below_next_ HB3.out hb4)
     have HR4 := Lib.hid (HR3.out.below hb4)
     have hi4 := (hb4.block b7 (Array.getElem?_eq_some_iff.1 HI3.out).1).trans HI3.out
     have c0 : w4.cell? ⟨b7, 0, none⟩ = some (.string x0) := by rw [cell_of hi4]; rfl
     have c1 : w4.cell? ⟨b7, 1, none⟩ = some (.int .i64 x1) := by rw [cell_of hi4]; rfl
     have c2 : w4.cell? ⟨b7, 2, none⟩ = some (.int .u32 x2) := by rw [cell_of hi4]; rfl
     have c3 : w4.cell? ⟨b7, 3, none⟩ = some (.int .u32 x3) := by rw [cell_of hi4]; rfl
     have c4 : w4.cell? ⟨b7, 4, none⟩ = some (.int .u32 x4) := by rw [cell_of hi4]; rfl
     have c5 : w4.cell? ⟨b7, 5, none⟩ = some (.int .i64 x5) := by rw [cell_of hi4]; rfl
     have c6 : w4.cell? ⟨b7, 6, none⟩ = some (.int .i64 x6) := by rw [cell_of hi4]; rfl
     have c7 : w4.cell? ⟨b7, 7, none⟩ = some (.string x7) := by rw [cell_of hi4]; rfl
     clear hb4 hi4 HC HI3 HR3 HB3
     go_wp2_with (first | (refine store_by_run (p := .tmp 33) (v := .tmp 32) (k := i) (x0, x1, x2, x3, x4, x5, x6, x7) rfl rfl rfl rfl rfl HAD.out HR4.out HZ.out ?_; have hs1 := row_set (x0, x1, x2, x3, x4, x5, x6, x7) HR4.out HZ.out; have HR5 := Lib.hid hs1.1; have HB5 := Lib.hid (below_row HB4.out hs1.2 HNG.out); clear hs1 c0 c1 c2 c3 c4 c5 c6 c7; generalize w4.setCells g (i * 8) (cellsI (x0, x1, x2, x3, x4, x5, x6, x7)) = w5 at *))
     go_roundg (gk - 1)
     case measure => omega
     case rel => exact ⟨i + 1, j + 1, by go_num, by go_num, by omega, by omega, by omega, by omega, Lib.hid ⟨_, HK2.out, HR5.out⟩, HB5⟩
   ·
    have hltI : ¬ (j : Int) < (N : Int) := by omega
    have hjN2 : j = N := by omega
    subst hjN2
    obtain ⟨cur, hraw, hcN, hflat⟩ := Row.raw HR.out
    have hcap : cur.length = c * 8 := hraw.size
    have hrun := run_clear_raw hraw (t := 41) (ty := 0) Tryz.underlying41 i (j - i) (c - i) (by omega) (by omega)
    have hfr := row_front (i := i) (vs := zc (j - i)) hraw HR.out.1 (by omega) hcN hflat (by rw [zc_len]; omega)
    have hgr := (hraw.lay (o := i * 8) (vs := zc (j - i)) (by rw [zc_len]; omega)).2
    have hdone : d.take i = l.filter (fun x => !p x) := by
     have := HK.out
     rw [← HLN.out] at this
     exact this.done
    rw [hdone] at hfr
    have hil : (l.filter (fun x => !p x)).length = i := by rw [← hdone, List.length_take, HR.out.1]; omega
    have HRUN := Lib.hid hrun
    have HFR := Lib.hid hfr
    have HB2 := Lib.hid (below_row HB.out hgr HNG.out)
    have HIL := Lib.hid hil
    have haddI : ad.add (i * 8) = ⟨g, i * 8, none⟩ := by rw [HAD.out, Addr.add_lit, Nat.zero_add]
    have hic : i ≤ c := by omega
    have hiI : (i : Int) ≤ (j : Int) := by omega
    have hicI : (i : Int) ≤ (c : Int) := by omega
    clear hrun hfr hgr hdone hil hraw hflat hcap HK HR HB
    go_wp2_with (first | ((with_reducible refine gate_builtin (b := .clear) (xs := #[.tmp 38]) rfl ?_); refine clear_by_run rfl (.tmp 38) rfl rfl HRUN.out ?_))
    go_ret
    exact ⟨by rw [HIL.out]; rfl, by rw [HIL.out]; exact HFR.out, HB2.out⟩
 ·
  have e1 : idxP p l = -1 := by unfold idxP; rw [if_neg hx]
  rw [e1] at HI
  have HF := Lib.hid (idx_not hx)
  clear e1 hx
  go_enter Tryz.func111, Tryz.ntmps111
  go_wp2_with (go_at_call 113; refine HI.out.mono ?_; rintro e w1 ⟨rfl, hb⟩; have HB1 := Lib.hid (below_next_ HB.out hb); have HR1 := Lib.hid (HR.out.below hb); clear hb)
  go_ret
  rw [HF.out, HLN.out]
  exact ⟨rfl, HR1.out, HB1.out⟩
/-- A row of one's own is none, or lies in a block. -/
theorem row_cases {W : World} {n : Nat} {v : Value} {l : List It} (h : itemK.R 77 W n (fun _ => True) v l) : (v = .slice none 0 0 ∧ l = []) ∨ ∃ g c, v = .slice (some ⟨g, 0, none⟩) l.length c ∧ Row W n g l.length c l := by
 obtain ⟨inner, hown⟩ := Kd.R_own h
 rcases hown.2 with ⟨e, hn⟩ | ⟨g, cap, cur, e, _⟩
 ·
  exact .inl ⟨e, List.eq_nil_of_length_eq_zero hn⟩
 ·
  exact .inr ⟨g, cap, e, rfl, by rw [← e]; exact h⟩
theorem Row.R {W : World} {n g N c : Nat} {l : List It} (h : Row W n g N c l) : itemK.R 77 W n (fun _ => True) (.slice (some ⟨g, 0, none⟩) N c) l := h.2
theorem delete_none (W0 : World) (F bc : Nat) (p : It → Bool) (W : World) (hB : Below W0.heap.size W0 W) (hp : Asks W0 F bc p []) :
  Calls Tryz.prog 111 #[.slice none 0 0, .func (.func F) #[] #[.pointer (some ⟨bc, 0, none⟩)]] W fun e w' => e = .returned (.slice none 0 0) ∧ Below W0.heap.size W0 w' := by
 have HI : Hid (Calls Tryz.prog 113 #[.slice none 0 0, .func (.func F) #[] #[.pointer (some ⟨bc, 0, none⟩)]] W fun e w' => e = .returned (.int .i64 (-1)) ∧ Below W.heap.size W w') := Lib.hid (index_any F bc p [] none 0 W ⟨rfl, by simp, fun h => absurd h (Nat.lt_irrefl _)⟩ (hp.later hB))
 have HB := Lib.hid hB
 clear hp hB
 go_enter Tryz.func111, Tryz.ntmps111
 go_wp2_with (go_at_call 113; refine HI.out.mono ?_; rintro e w1 ⟨rfl, hb⟩; have HB1 := Lib.hid (below_next_ HB.out hb); clear hb)
 go_ret
 exact ⟨rfl, HB1.out⟩
/-- slices.DeleteFunc of a row of one's own. -/
theorem delete_any (W0 : World) (F bc : Nat) (p : It → Bool) (l : List It) (v : Value) (W : World) (hN : l.length ≤ 1000000) (hB : Below W0.heap.size W0 W) (h : itemK.R 77 W W0.heap.size (fun _ => True) v l) (hp : Asks W0 F bc p l) :
  Calls Tryz.prog 111 #[v, .func (.func F) #[] #[.pointer (some ⟨bc, 0, none⟩)]] W fun e w' => ∃ v1, e = .returned v1 ∧ itemK.R 77 w' W0.heap.size (fun _ => True) v1 (l.filter (fun x => !p x)) ∧ Below W0.heap.size W0 w' := by
 rcases row_cases h with ⟨rfl, rfl⟩ | ⟨g, c, rfl, hr⟩
 ·
  refine (delete_none W0 F bc p W hB hp).mono ?_
  rintro e w' ⟨rfl, hb⟩
  exact ⟨_, rfl, Kd.R_nil _ _ _ _ _, hb⟩
 ·
  refine (delete_row W0 F bc g l.length c p l W hN hB hr hp).mono ?_
  rintro e w' ⟨rfl, h2, hb⟩
  exact ⟨_, rfl, h2.2, hb⟩
end Go.Proofs.YtibmfjacfbpfgaaGreatDoor.TreeDel
/- tree: slices.Insert of one item. -/
namespace Go.Proofs.YtibmfjacfbpfgaaGreatDoor.TreeIns
open Go.RowKit YtibmfjacfbpfgaaGreatDoorW.PrintWords YtibmfjacfbpfgaaGreatDoorW.PrintLast YtibmfjacfbpfgaaGreatDoorW.PrintMore YtibmfjacfbpfgaaGreatDoor.Item Own Raw TreeLaw NameWalk SortSwap SortIns TreeFn TreeDel
theorem laid_front {cur vs : List Value} {o : Nat} (ho : o ≤ cur.length) : (laid cur vs o).take (o + vs.length) = cur.take o ++ vs := by
 unfold laid
 have e : (cur.take o ++ vs).length = o + vs.length := by rw [List.length_append, List.length_take]; omega
 rw [← e, List.take_left]
theorem laid_below {cur vs : List Value} {o k : Nat} (ho : o ≤ cur.length) (hk : k ≤ o) : (laid cur vs o).take k = cur.take k := by
 unfold laid
 rw [List.append_assoc, List.take_append_of_le_length (by rw [List.length_take]; omega), List.take_take, Nat.min_eq_left hk]
theorem laid_behind {cur vs : List Value} {o : Nat} (ho : o ≤ cur.length) : (laid cur vs o).drop (o + vs.length) = cur.drop (o + vs.length) := by
 unfold laid
 have e : (cur.take o ++ vs).length = o + vs.length := by rw [List.length_append, List.length_take]; omega
 rw [← e, List.drop_left]
theorem RawAt.drew {W : World} {n g c : Nat} {cur : List Value} (h : RawAt W n g c cur) : RawAt W.drew n g c cur := ⟨h.blk, h.size, h.cap, h.base⟩
/-- First what stands behind, then the new one: in place. -/
theorem shifted {l : List It} {cur : List Value} {i N : Nat} (y : It) (hN : l.length = N) (hi : i < N) (hc : (N + 1) * 8 ≤ cur.length) (he : cur.take (N * 8) = flat l) :
  (laid (laid cur (flat (l.drop i)) ((i + 1) * 8)) (cellsI y) (i * 8)).take ((N + 1) * 8) = flat (l.take i ++ y :: l.drop i) := by
 have hd : (flat (l.drop i)).length = (N - i) * 8 := by rw [flat_len, List.length_drop, hN]
 have h1 : (laid cur (flat (l.drop i)) ((i + 1) * 8)).length = cur.length := laid_len (by rw [hd]; omega)
 have h2 := laid_front (cur := cur) (vs := flat (l.drop i)) (o := (i + 1) * 8) (by omega)
 have e0 : (laid (laid cur (flat (l.drop i)) ((i + 1) * 8)) (cellsI y) (i * 8)).take ((N + 1) * 8) = (laid (laid cur (flat (l.drop i)) ((i + 1) * 8)) (cellsI y) (i * 8)).take ((i + 1) * 8) ++ ((laid (laid cur (flat (l.drop i)) ((i + 1) * 8)) (cellsI y) (i * 8)).drop ((i + 1) * 8)).take ((N - i) * 8) := by
  rw [← List.take_add]; congr 1; omega
 have e1 : (laid (laid cur (flat (l.drop i)) ((i + 1) * 8)) (cellsI y) (i * 8)).take ((i + 1) * 8) = flat (l.take i) ++ cellsI y := by
  have := laid_front (cur := laid cur (flat (l.drop i)) ((i + 1) * 8)) (vs := cellsI y) (o := i * 8) (by omega)
  rw [cellsI_len, show i * 8 + 8 = (i + 1) * 8 by omega] at this
  rw [this, laid_below (by omega) (by omega), ← flat_take, ← he, List.take_take, Nat.min_eq_left (by omega)]
 have e2 : ((laid (laid cur (flat (l.drop i)) ((i + 1) * 8)) (cellsI y) (i * 8)).drop ((i + 1) * 8)).take ((N - i) * 8) = flat (l.drop i) := by
  have := laid_behind (cur := laid cur (flat (l.drop i)) ((i + 1) * 8)) (vs := cellsI y) (o := i * 8) (by omega)
  rw [cellsI_len, show i * 8 + 8 = (i + 1) * 8 by omega] at this
  rw [this]
  have h3 : ((laid cur (flat (l.drop i)) ((i + 1) * 8)).take ((i + 1) * 8 + (flat (l.drop i)).length)).drop ((i + 1) * 8) = (cur.take ((i + 1) * 8) ++ flat (l.drop i)).drop ((i + 1) * 8) := by rw [h2]
  rw [hd, List.drop_take, show (i + 1) * 8 + (N - i) * 8 - (i + 1) * 8 = (N - i) * 8 by omega] at h3
  rw [h3]
  have hl : (cur.take ((i + 1) * 8)).length = (i + 1) * 8 := by rw [List.length_take]; omega
  exact List.drop_left' hl
 rw [e0, e1, e2, flat_append, flat_cons, List.append_assoc]
/-- First the new one, then what stands behind: in a new block. -/
theorem joined {l : List It} {cur : List Value} {i N : Nat} (y : It) (hN : l.length = N) (hi : i < N) (hc : (N + 1) * 8 ≤ cur.length) (he : cur.take (i * 8) = flat (l.take i)) :
  (laid (laid cur (cellsI y) (i * 8)) (flat (l.drop i)) ((i + 1) * 8)).take ((N + 1) * 8) = flat (l.take i ++ y :: l.drop i) := by
 have hd : (flat (l.drop i)).length = (N - i) * 8 := by rw [flat_len, List.length_drop, hN]
 have h1 : (laid cur (cellsI y) (i * 8)).length = cur.length := laid_len (by rw [cellsI_len]; omega)
 have h2 := laid_front (cur := laid cur (cellsI y) (i * 8)) (vs := flat (l.drop i)) (o := (i + 1) * 8) (by omega)
 rw [hd, show (i + 1) * 8 + (N - i) * 8 = (N + 1) * 8 by omega] at h2
 have h3 := laid_front (cur := cur) (vs := cellsI y) (o := i * 8) (by omega)
 rw [cellsI_len, show i * 8 + 8 = (i + 1) * 8 by omega] at h3
 rw [h2, h3, he, flat_append, flat_cons, List.append_assoc]
set_option maxRecDepth 100000 in
theorem run_append_make {W : World} {n g c N i : Nat} {l : List It} {cur : List Value} (h : RawAt W n g c cur) (hN : N ≤ 1000000) (hi : i < N) (hcN : N ≤ c) (hc : c < N + 1) (hl : l.length = N) (he : cur.take (N * 8) = flat l) (hn : n ≤ W.heap.size) (k : Int) (hk : k = ((N + 1 - i : Nat) : Int)) (ty : TypeId) :
  ∃ g2 c2 W2 cur2, (Builtin.append_ #[41, 3] ty #[.slice (some ⟨g, 0, none⟩) i c, .int .i64 k]).run Tryz.prog W = .ok (.slice (some ⟨g2, 0, none⟩) (N + 1) c2) W2 ∧ RawAt W2 n g2 c2 cur2 ∧ N + 1 ≤ c2 ∧ cur2.take (i * 8) = flat (l.take i) ∧ Below W.heap.size W W2 ∧ W.heap.size ≤ g2 := by
 obtain ⟨i0, hi0, hz, hs, hb⟩ := itemInfo
 obtain ⟨m, hm⟩ : ∃ m, m = N + 1 - i := ⟨_, rfl⟩
 subst hk
 rw [← hm]
 have hil : (l.take i).length = i := by rw [List.length_take]; omega
 have hcap := h.size
 have hfo := run_firstCells_some (P := Tryz.prog) W.drew 8 i ⟨g, 0, none⟩ i c (flat (l.take i)) (by rw [flat_len, hil]) (fun j v hj => by
  rw [Addr.add_lit, Nat.zero_add]
  show W.cell? _ = _
  rw [h.cell, ← hj, ← flat_take, ← he, List.take_take, Nat.min_eq_left (by omega), List.getElem?_take_of_lt]
  have := (List.getElem?_eq_some_iff.1 hj).1
  rw [flat_len, hil] at this
  exact this)
 have hn' : ¬ (i + m ≤ c) := by omega
 have hw : IntKind.i64.wrap (m : Int) = m := by rw [IntKind.wrap_i64]; omega
 have h63' : ¬ (9223372036854775807 < ((i : Int) + (m : Int))) := by omega
 have h48' : ¬ (281474976710656 < Builtin.nextslicecap (i + m) c * 72) := by
  have := growslice_fits (need := i + m) (old := c) (bytes := 72) (by omega) (by omega)
  omega
 have h48i : ¬ (281474976710656 < (m : Int) * (72 : Int)) := by omega
 have hneg : ¬ ((m : Int) < 0) := by omega
 have hms : ¬ (m = 0) := by omega
 have hm8 : ¬ (m * 8 = 0) := by omega
 have him : i + m = N + 1 := by omega
 have hge := grownCap_ge W (i + m) c 77
 have hcm := grownCap_le_maxLen W (i + m) c 77 (by simp only [maxLen]; omega)
 have hrun : (Builtin.append_ #[41, 3] ty #[.slice (some ⟨g, 0, none⟩) i c, .int .i64 (m : Int)]).run Tryz.prog W = .ok (.slice (some ⟨W.heap.size, 0, none⟩) (i + m) (grownCap W (i + m) c 77)) (W.drew.alloc (.cells ((flat (l.take i)).toArray ++ Builtin.zeroCells (Value.agg #[.string ByteArray.empty, .int .i64 0, .int .u32 0, .int .u32 0, .int .u32 0, .int .i64 0, .int .i64 0, .string ByteArray.empty]).cells m ++ Builtin.zeroCells (Value.agg #[.string ByteArray.empty, .int .i64 0, .int .u32 0, .int .u32 0, .int .u32 0, .int .i64 0, .int .i64 0, .string ByteArray.empty]).cells (grownCap W (i + m) c 77 - (i + m))) 77)) := by
  generalize hzz : (Value.agg #[.string ByteArray.empty, .int .i64 0, .int .u32 0, .int .u32 0, .int .u32 0, .int .i64 0, .int .i64 0, .string ByteArray.empty]) = zz at *
  simp [Builtin.append_, run_underlying Tryz.underlying41, run_underlying Tryz.underlying3, sizeOf, typeInfo, zeroValue, hi0, hz, hs, hb, asInt, asIntOf, hw, hn', hneg, hms, hm8, h63', h48', h48i, Question.forced, hfo, newRow, grownCap]
 rw [him] at hrun hge hcm
 have hB : Below W.heap.size W (W.drew.alloc (.cells ((flat (l.take i)).toArray ++ Builtin.zeroCells (Value.agg #[.string ByteArray.empty, .int .i64 0, .int .u32 0, .int .u32 0, .int .u32 0, .int .i64 0, .int .i64 0, .string ByteArray.empty]).cells m ++ Builtin.zeroCells (Value.agg #[.string ByteArray.empty, .int .i64 0, .int .u32 0, .int .u32 0, .int .u32 0, .int .i64 0, .int .i64 0, .string ByteArray.empty]).cells (grownCap W (N + 1) c 77 - (N + 1))) 77)) := (below_drew (Below.refl _ _)).alloc (by show W.heap.size ≤ W.heap.size; exact Nat.le_refl _) _
 have hsz : ∀ q, (Builtin.zeroCells (Value.agg #[.string ByteArray.empty, .int .i64 0, .int .u32 0, .int .u32 0, .int .u32 0, .int .i64 0, .int .i64 0, .string ByteArray.empty]).cells q).size = q * 8 := fun q => by rw [size_zeroCells]; rfl
 refine ⟨_, _, _, (flat (l.take i) ++ (Builtin.zeroCells (Value.agg #[.string ByteArray.empty, .int .i64 0, .int .u32 0, .int .u32 0, .int .u32 0, .int .i64 0, .int .i64 0, .string ByteArray.empty]).cells m).toList ++ (Builtin.zeroCells (Value.agg #[.string ByteArray.empty, .int .i64 0, .int .u32 0, .int .u32 0, .int .u32 0, .int .i64 0, .int .i64 0, .string ByteArray.empty]).cells (grownCap W (N + 1) c 77 - (N + 1))).toList), hrun, ⟨?_, ?_, hcm, hn⟩, hge, ?_, hB, Nat.le_refl _⟩
 ·
  have := heap_new W.drew (.cells ((flat (l.take i)).toArray ++ Builtin.zeroCells (Value.agg #[.string ByteArray.empty, .int .i64 0, .int .u32 0, .int .u32 0, .int .u32 0, .int .i64 0, .int .i64 0, .string ByteArray.empty]).cells m ++ Builtin.zeroCells (Value.agg #[.string ByteArray.empty, .int .i64 0, .int .u32 0, .int .u32 0, .int .u32 0, .int .i64 0, .int .i64 0, .string ByteArray.empty]).cells (grownCap W (N + 1) c 77 - (N + 1))) 77)
  refine Eq.trans this ?_
  congr 2
  apply Array.ext'
  simp
 ·
  simp only [List.length_append, flat_len, hil, Array.length_toList, hsz]
  omega
 ·
  rw [List.append_assoc, List.take_append_of_le_length (by rw [flat_len, hil]; exact Nat.le_refl _), List.take_of_length_le (by rw [flat_len, hil]; exact Nat.le_refl _)]
theorem one_cells {W : World} {b : Nat} {y0 : ByteArray} {y1 y2 y3 y4 y5 y6 : Int} {y7 : ByteArray} (h : W.heap[b]? = some (.cells #[.string y0, .int .i64 y1, .int .u32 y2, .int .u32 y3, .int .u32 y4, .int .i64 y5, .int .i64 y6, .string y7] 77 (0, 0))) : ∀ j v, (cellsI (y0, y1, y2, y3, y4, y5, y6, y7))[j]? = some v → W.cell? ((⟨b, 0, none⟩ : Addr).add j) = some v := by
 intro j v hj
 rw [Addr.add_lit, Nat.zero_add, cell_of h, ← hj]
 simp
set_option maxHeartbeats 8000000 in
set_option maxRecDepth 100000 in
theorem insert_room (W0 : World) (g N c i bv : Nat) (y0 : ByteArray) (y1 y2 y3 y4 y5 y6 : Int) (y7 : ByteArray) (l : List It) (W : World) (hN : N ≤ 1000000) (hi : i < N) (hc : N + 1 ≤ c) (hB : Below W0.heap.size W0 W) (h : Row W W0.heap.size g N c l) (hv : W.heap[bv]? = some (.cells #[.string y0, .int .i64 y1, .int .u32 y2, .int .u32 y3, .int .u32 y4, .int .i64 y5, .int .i64 y6, .string y7] 77 (0, 0))) (hne : bv ≠ g) :
  Calls Tryz.prog 115 #[.slice (some ⟨g, 0, none⟩) N c, .int .i64 i, .slice (some ⟨bv, 0, none⟩) 1 1] W fun e w' => ∃ v1, e = .returned v1 ∧ itemK.R 77 w' W0.heap.size (fun _ => True) v1 (l.take i ++ (y0, y1, y2, y3, y4, y5, y6, y7) :: l.drop i) ∧ Below W0.heap.size W0 w' := by
 obtain ⟨cur, hraw, hcN, hflat⟩ := Row.raw h
 have hcap := hraw.size
 have hov : ∀ lb cb, (callFunc 120 #[.slice (some ⟨bv, 0, none⟩) 1 1, .slice (some ⟨g, (i + 1) * 8, none⟩) lb cb]).run Tryz.prog W = .ok (.value (.bool false)) W := fun lb cb => by
  rw [run_callFunc_extern Tryz.func120 (by kernel_rfl) (by kernel_rfl) (by kernel_rfl) (e := Extern.SlicesOverlaps.overlaps #[41, 41] #[4]) (by kernel_rfl),
   Lib.run_overlaps_apart W 41 4 77 Tryz.underlying41 8 (fun w => by obtain ⟨i0, hi0, _, hs, _⟩ := itemInfo; simp [sizeOf, typeInfo, hi0, hs]) ⟨bv, 0, none⟩ ⟨g, (i + 1) * 8, none⟩ 1 1 lb cb hne 77 77 8 (c * 8) (by simp [World.shape?, hv]) (by simp [World.shape?, hraw.blk, hcap]) (by omega) (frozen_of hv _) (frozen_of hv _)]
  rfl
 have hd : (flat (l.drop i)).length = (N - i) * 8 := by rw [flat_len, List.length_drop, h.1]
 have hcp1 : ∀ ty dl dc sl sc, dl = N - i → sl = N + 1 - i → (Builtin.copy_ #[41, 41] ty #[.slice (some ⟨g, (i + 1) * 8, none⟩) dl dc, .slice (some ⟨g, i * 8, none⟩) sl sc]).run Tryz.prog W.drew = .ok (goInt ((N - i : Nat) : Int)) (W.drew.setRow g (laid cur (flat (l.drop i)) ((i + 1) * 8)).toArray) := fun ty dl dc sl sc h1 h2 => by
  subst h1 h2
  have hm : Nat.min (N + 1 - i) (N - i) = N - i := Nat.min_eq_right (by omega)
  have := run_copy_raw (RawAt.drew hraw) (dT := 41) (sT := 41) (ty := ty) Tryz.underlying41 ((i + 1) * 8) (N - i) dc ⟨g, i * 8, none⟩ (N + 1 - i) sc (flat (l.drop i)) (by rw [hm, hd]) (fun j v hj => by
   rw [Addr.add_lit]
   show W.cell? _ = _
   rw [hraw.cell, ← hj, ← flat_drop, ← hflat, List.getElem?_drop, List.getElem?_take_of_lt]
   have := (List.getElem?_eq_some_iff.1 hj).1
   rw [hd] at this
   omega) (by rw [hd]; omega) (flat_one _)
  rw [hm] at this
  exact this
 have hl1 := (RawAt.drew hraw).lay (vs := flat (l.drop i)) (o := (i + 1) * 8) (by rw [hd]; omega)
 have hb1 : Below W0.heap.size W0 (W.drew.setRow g (laid cur (flat (l.drop i)) ((i + 1) * 8)).toArray) := below_row (below_drew hB) hl1.2 h.base
 have hv1 : (W.drew.setRow g (laid cur (flat (l.drop i)) ((i + 1) * 8)).toArray).heap[bv]? = some (.cells #[.string y0, .int .i64 y1, .int .u32 y2, .int .u32 y3, .int .u32 y4, .int .i64 y5, .int .i64 y6, .string y7] 77 (0, 0)) := (setRow_other _ g bv _ hne).trans hv
 obtain ⟨W1, hW1⟩ : ∃ W1, W1 = W.drew.setRow g (laid cur (flat (l.drop i)) ((i + 1) * 8)).toArray := ⟨_, rfl⟩
 rw [← hW1] at hl1 hb1 hv1
 have hcp1 : ∀ ty dl dc sl sc, dl = N - i → sl = N + 1 - i → (Builtin.copy_ #[41, 41] ty #[.slice (some ⟨g, (i + 1) * 8, none⟩) dl dc, .slice (some ⟨g, i * 8, none⟩) sl sc]).run Tryz.prog W.drew = .ok (goInt ((N - i : Nat) : Int)) W1 := by rw [hW1]; exact hcp1
 have hcl : (laid cur (flat (l.drop i)) ((i + 1) * 8)).length = cur.length := laid_len (by rw [hd]; omega)
 have hcp2 : ∀ ty dl dc, 0 < dl → (Builtin.copy_ #[41, 41] ty #[.slice (some ⟨g, i * 8, none⟩) dl dc, .slice (some ⟨bv, 0, none⟩) 1 1]).run Tryz.prog W1 = .ok (goInt 1) (W1.setRow g (laid (laid cur (flat (l.drop i)) ((i + 1) * 8)) (cellsI (y0, y1, y2, y3, y4, y5, y6, y7)) (i * 8)).toArray) := fun ty dl dc h1 => by
  have hm : Nat.min 1 dl = 1 := Nat.min_eq_left h1
  have := run_copy_raw hl1.1 (dT := 41) (sT := 41) (ty := ty) Tryz.underlying41 (i * 8) dl dc ⟨bv, 0, none⟩ 1 1 (cellsI (y0, y1, y2, y3, y4, y5, y6, y7)) (by rw [hm]; rfl) (one_cells hv1) (by rw [cellsI_len, hcl]; omega) (cellsI_one _)
  rw [hm] at this
  exact this
 have hl2 := hl1.1.lay (vs := cellsI (y0, y1, y2, y3, y4, y5, y6, y7)) (o := i * 8) (by rw [cellsI_len, hcl]; omega)
 have hb2 := below_row hb1 hl2.2 h.base
 have hrow := Row.ofRaw (l := l.take i ++ (y0, y1, y2, y3, y4, y5, y6, y7) :: l.drop i) (N := N + 1) hl2.1 (by simp only [List.length_append, List.length_cons, List.length_take, List.length_drop, h.1]; omega) hc (shifted (y0, y1, y2, y3, y4, y5, y6, y7) h.1 hi (by omega) hflat)
 have HCP1 := Lib.hid hcp1
 have HCP2 := Lib.hid hcp2
 have HE := Lib.hid (And.intro hrow.2 hb2)
 clear hcp1 hcp2 hrow hb2 hl1 hl2 hb1 hv1 hW1 hcl hd hflat hraw hcap
 obtain ⟨ad, had⟩ : ∃ ad : Addr, ad = ⟨g, 0, none⟩ := ⟨_, rfl⟩
 have HAD := Lib.hid had
 have haddI : ad.add (i * 8) = ⟨g, i * 8, none⟩ := by rw [had, Addr.add_lit, Nat.zero_add]
 have haddJ : ad.add ((i + 1) * 8) = ⟨g, (i + 1) * 8, none⟩ := by rw [had, Addr.add_lit, Nat.zero_add]
 rw [← had]
 have hiN : (i : Int) ≤ (N : Int) := by omega
 have q0 : ((i : Int) == (N : Int)) = false := beq_eq_false_iff_ne.2 (by omega)
 have q1 : ¬ (c : Int) < (N : Int) + 1 := by omega
 have q2 : (N : Int) + 1 ≤ (c : Int) := by omega
 have q3 : (i : Int) + 1 ≤ (N : Int) + 1 := by omega
 have htn : ((i : Int) + 1).toNat = i + 1 := by omega
 have htN : ((N : Int) + 1).toNat = N + 1 := by omega
 clear had h hB hv
 go_enter Tryz.func115, Tryz.ntmps115
 go_wp2_with (simp only [hov])
 have r1 : (0 : Int) ≤ (i : Int) + 1 := by omega
 have r2 : ¬ (c = i + 1) := by omega
 have r3 : ¬ (c = i) := by omega
 have r4 : (i : Int) ≤ (N : Int) + 1 := by omega
 have hdl : N + 1 - (i + 1) = N - i := by omega
 have hps : 0 < N + 1 - i := by omega
 have hw1 : IntKind.i64.wrap ((i : Int) + 1) = (i : Int) + 1 := by rw [IntKind.wrap_i64]; omega
 refine start_ (n := 9) (S := fun w' => True) (ds := [8]) #[false, false, false, false, false, false, false, false, false] (by kernel_rfl) rfl rfl trivial (fun hHeld => ?_)
 refine pure_ (i := 0) (N := some 69) (v := ?_) (a' := ?_) #[true, false, false, false, false, false, false, false, false] rfl rfl (by kernel_rfl) (fun _ _ _ h => h) (Or.inl ⟨by rfl, ?_⟩) ?_ ?_
 rotate_left
 ·
  intro w'
  go_simp
  with_reducible rfl
 rotate_left
 ·
  simp only [Act.put, Own.na, Own.nz, Own.ns, i64_w, i32_w]
  rfl
 refine pure_ (i := 1) (N := some 70) (v := ?_) (a' := ?_) #[true, true, false, false, false, false, false, false, false] rfl rfl (by kernel_rfl) (fun _ _ _ h => h) (Or.inl ⟨by rfl, ?_⟩) ?_ ?_
 rotate_left
 ·
  intro w'
  go_simp
  with_reducible rfl
 rotate_left
 ·
  simp only [Act.put, Own.na, Own.nz, Own.ns, i64_w, i32_w]
  rfl
 refine pure_ (i := 2) (N := some 71) (v := ?_) (a' := ?_) #[true, true, true, false, false, false, false, false, false] rfl rfl (by kernel_rfl) (fun _ _ _ h => h) (Or.inl ⟨by rfl, ?_⟩) ?_ ?_
 rotate_left
 ·
  intro w'
  go_simp
  with_reducible rfl
 rotate_left
 ·
  simp only [Act.put, Own.na, Own.nz, Own.ns, i64_w, i32_w]
  rfl
 refine pure_ (i := 3) (N := some 72) (v := ?_) (a' := ?_) #[true, true, true, true, false, false, false, false, false] rfl rfl (by kernel_rfl) (fun _ _ _ h => h) (Or.inl ⟨by rfl, ?_⟩) ?_ ?_
 rotate_left
 ·
  intro w'
  go_simp
  with_reducible rfl
 rotate_left
 ·
  simp only [Act.put, Own.na, Own.nz, Own.ns, i64_w, i32_w]
  rfl
 refine pure_ (i := 4) (N := some 73) (v := ?_) (a' := ?_) #[true, true, true, true, true, false, false, false, false] rfl rfl (by kernel_rfl) (fun _ _ _ h => h) (Or.inl ⟨by rfl, ?_⟩) ?_ ?_
 rotate_left
 ·
  intro w'
  go_simp
  with_reducible rfl
 rotate_left
 ·
  simp only [Act.put, Own.na, Own.nz, Own.ns, i64_w, i32_w]
  rfl
 refine pure_ (i := 5) (N := some 74) (v := ?_) (a' := ?_) #[true, true, true, true, true, true, false, false, false] rfl rfl (by kernel_rfl) (fun _ _ _ h => h) (Or.inl ⟨by rfl, ?_⟩) ?_ ?_
 rotate_left
 ·
  intro w'
  go_simp
  with_reducible rfl
 rotate_left
 ·
  simp only [Act.put, Own.na, Own.nz, Own.ns, i64_w, i32_w]
  rfl
 refine pure_ (i := 6) (N := some 75) (v := ?_) (a' := ?_) #[true, true, true, true, true, true, true, false, false] rfl rfl (by kernel_rfl) (fun _ _ _ h => h) (Or.inl ⟨by rfl, ?_⟩) ?_ ?_
 rotate_left
 ·
  intro w'
  go_simp
  with_reducible rfl
 rotate_left
 ·
  simp only [Act.put, Own.na, Own.nz, Own.ns, i64_w, i32_w]
  rfl
 refine pure_ (i := 7) (N := some 76) (v := ?_) (a' := ?_) #[true, true, true, true, true, true, true, true, false] rfl rfl (by kernel_rfl) (fun _ _ _ h => h) (Or.inl ⟨by rfl, ?_⟩) ?_ ?_
 rotate_left
 ·
  intro w'
  go_simp
  with_reducible rfl
 rotate_left
 ·
  simp only [Act.put, Own.na, Own.nz, Own.ns, i64_w, i32_w]
  rfl
 refine last_ (i := 8) (N := some 77) #[true, true, true, true, true, true, true, true, true] rfl rfl (by kernel_rfl) (by decide) (fun K hK => ?_)
 refine value_ (w1 := _) (v := _) (by rfl) rfl (copy_exec rfl rfl rfl (HCP1.out _ _ _ _ _ (by first | exact hdl | rfl) (by rfl))) ?_
 refine hK.out _ _ ?_
 clear hK K
 refine norm_ (a' := ?_) ?_ ?_
 rotate_left
 ·
  show Act.put _ (some 77) _ = _
  simp only [Act.put, Own.na, Own.nz, Own.ns, i64_w, i32_w]
  rfl
 refine done_ (by kernel_rfl) ?_
 clear hov hw1
 go_wp2_with (first | ((with_reducible refine gate_builtin (b := .copy) (xs := #[.tmp 80, .tmp 81]) rfl ?_); refine copy_by_run rfl (.tmp 80) (.tmp 81) rfl rfl rfl (HCP2.out _ _ _ hps) ?_))
 go_ret
 exact ⟨_, rfl, by rw [← HAD.out] at HE; exact HE.out.1, HE.out.2⟩
set_option maxHeartbeats 8000000 in
set_option maxRecDepth 100000 in
theorem insert_grow (W0 : World) (g N c i bv : Nat) (y0 : ByteArray) (y1 y2 y3 y4 y5 y6 : Int) (y7 : ByteArray) (l : List It) (W : World) (hN : N ≤ 1000000) (hi : i < N) (hc : c < N + 1) (hB : Below W0.heap.size W0 W) (h : Row W W0.heap.size g N c l) (hv : W.heap[bv]? = some (.cells #[.string y0, .int .i64 y1, .int .u32 y2, .int .u32 y3, .int .u32 y4, .int .i64 y5, .int .i64 y6, .string y7] 77 (0, 0))) :
  Calls Tryz.prog 115 #[.slice (some ⟨g, 0, none⟩) N c, .int .i64 i, .slice (some ⟨bv, 0, none⟩) 1 1] W fun e w' => ∃ v1, e = .returned v1 ∧ itemK.R 77 w' W0.heap.size (fun _ => True) v1 (l.take i ++ (y0, y1, y2, y3, y4, y5, y6, y7) :: l.drop i) ∧ Below W0.heap.size W0 w' := by
 obtain ⟨cur, hraw, hcN, hflat⟩ := Row.raw h
 have hcap := hraw.size
 have hgl := h.lt
 have hbl : bv < W.heap.size := (Array.getElem?_eq_some_iff.1 hv).1
 have hd : (flat (l.drop i)).length = (N - i) * 8 := by rw [flat_len, List.length_drop, h.1]
 obtain ⟨g2, c2, W2, cur2, hrun, hraw2, hc2, hfl2, hb2, hg2⟩ := run_append_make hraw hN hi hcN hc h.1 hflat hB.size ((N : Int) + 1 - (i : Int)) (by omega) 41
 have hcap2 := hraw2.size
 have hv2 : W2.heap[bv]? = some (.cells #[.string y0, .int .i64 y1, .int .u32 y2, .int .u32 y3, .int .u32 y4, .int .i64 y5, .int .i64 y6, .string y7] 77 (0, 0)) := (hb2.block bv hbl).trans hv
 have hB2 := below_next_ hB hb2
 have hcp2 : ∀ ty dl dc, 0 < dl → (Builtin.copy_ #[41, 41] ty #[.slice (some ⟨g2, i * 8, none⟩) dl dc, .slice (some ⟨bv, 0, none⟩) 1 1]).run Tryz.prog W2 = .ok (goInt 1) (W2.setRow g2 (laid cur2 (cellsI (y0, y1, y2, y3, y4, y5, y6, y7)) (i * 8)).toArray) := fun ty dl dc h1 => by
  have hm : Nat.min 1 dl = 1 := Nat.min_eq_left h1
  have := run_copy_raw hraw2 (dT := 41) (sT := 41) (ty := ty) Tryz.underlying41 (i * 8) dl dc ⟨bv, 0, none⟩ 1 1 (cellsI (y0, y1, y2, y3, y4, y5, y6, y7)) (by rw [hm]; rfl) (one_cells hv2) (by rw [cellsI_len]; omega) (cellsI_one _)
  rw [hm] at this
  exact this
 have hl3 := hraw2.lay (vs := cellsI (y0, y1, y2, y3, y4, y5, y6, y7)) (o := i * 8) (by rw [cellsI_len]; omega)
 have hB3 := below_row hB2 hl3.2 (Nat.le_trans hB.size hg2)
 have hblk : (W2.setRow g2 (laid cur2 (cellsI (y0, y1, y2, y3, y4, y5, y6, y7)) (i * 8)).toArray).heap[g]? = W.heap[g]? := (setRow_other _ g2 g _ (by omega)).trans (hb2.block g hgl)
 have hcl : (laid cur2 (cellsI (y0, y1, y2, y3, y4, y5, y6, y7)) (i * 8)).length = cur2.length := laid_len (by rw [cellsI_len]; omega)
 obtain ⟨W3, hW3⟩ : ∃ W3, W3 = W2.setRow g2 (laid cur2 (cellsI (y0, y1, y2, y3, y4, y5, y6, y7)) (i * 8)).toArray := ⟨_, rfl⟩
 rw [← hW3] at hl3 hB3 hblk
 have hcp2 : ∀ ty dl dc, 0 < dl → (Builtin.copy_ #[41, 41] ty #[.slice (some ⟨g2, i * 8, none⟩) dl dc, .slice (some ⟨bv, 0, none⟩) 1 1]).run Tryz.prog W2 = .ok (goInt 1) W3 := by rw [hW3]; exact hcp2
 have hraw3 : RawAt W3 W0.heap.size g c cur := ⟨hblk.trans hraw.blk, hraw.size, hraw.cap, hraw.base⟩
 have hcp3 : ∀ ty dl dc sl sc, dl = N - i → sl = N - i → (Builtin.copy_ #[41, 41] ty #[.slice (some ⟨g2, (i + 1) * 8, none⟩) dl dc, .slice (some ⟨g, i * 8, none⟩) sl sc]).run Tryz.prog W3.drew = .ok (goInt ((N - i : Nat) : Int)) (W3.drew.setRow g2 (laid (laid cur2 (cellsI (y0, y1, y2, y3, y4, y5, y6, y7)) (i * 8)) (flat (l.drop i)) ((i + 1) * 8)).toArray) := fun ty dl dc sl sc h1 h2 => by
  subst h1 h2
  have hm : Nat.min (N - i) (N - i) = N - i := Nat.min_self _
  have := run_copy_raw (RawAt.drew hl3.1) (dT := 41) (sT := 41) (ty := ty) Tryz.underlying41 ((i + 1) * 8) (N - i) dc ⟨g, i * 8, none⟩ (N - i) sc (flat (l.drop i)) (by rw [hm, hd]) (fun j v hj => by
   rw [Addr.add_lit]
   show W3.cell? _ = _
   rw [hraw3.cell, ← hj, ← flat_drop, ← hflat, List.getElem?_drop, List.getElem?_take_of_lt]
   have := (List.getElem?_eq_some_iff.1 hj).1
   rw [hd] at this
   omega) (by rw [hd, hcl]; omega) (flat_one _)
  rw [hm] at this
  exact this
 have hl4 := (RawAt.drew hl3.1).lay (vs := flat (l.drop i)) (o := (i + 1) * 8) (by rw [hd, hcl]; omega)
 have hB4 := below_row (below_drew hB3) hl4.2 (Nat.le_trans hB.size hg2)
 have hrow := Row.ofRaw (l := l.take i ++ (y0, y1, y2, y3, y4, y5, y6, y7) :: l.drop i) (N := N + 1) hl4.1 (by simp only [List.length_append, List.length_cons, List.length_take, List.length_drop, h.1]; omega) hc2 (joined (y0, y1, y2, y3, y4, y5, y6, y7) h.1 hi (by omega) hfl2)
 obtain ⟨W5, hW5⟩ : ∃ W5, W5 = W3.drew.setRow g2 (laid (laid cur2 (cellsI (y0, y1, y2, y3, y4, y5, y6, y7)) (i * 8)) (flat (l.drop i)) ((i + 1) * 8)).toArray := ⟨_, rfl⟩
 rw [← hW5] at hrow hB4
 have hcp3 : ∀ ty dl dc sl sc, dl = N - i → sl = N - i → (Builtin.copy_ #[41, 41] ty #[.slice (some ⟨g2, (i + 1) * 8, none⟩) dl dc, .slice (some ⟨g, i * 8, none⟩) sl sc]).run Tryz.prog W3.drew = .ok (goInt ((N - i : Nat) : Int)) W5 := by rw [hW5]; exact hcp3
 have HRUN := Lib.hid hrun
 have HCP2 := Lib.hid hcp2
 have HCP3 := Lib.hid hcp3
 have HE := Lib.hid (And.intro hrow.2 hB4)
 clear hrun hcp2 hcp3 hrow hB4 hl4 hl3 hB3 hblk hW3 hW5 hcl hraw3 hd hflat hraw hcap hraw2 hcap2 hfl2 hb2 hv2 hB2 hB hv
 obtain ⟨ad, had⟩ : ∃ ad : Addr, ad = ⟨g, 0, none⟩ := ⟨_, rfl⟩
 obtain ⟨ad2, had2⟩ : ∃ ad : Addr, ad = ⟨g2, 0, none⟩ := ⟨_, rfl⟩
 have HAD := Lib.hid (And.intro had had2)
 have haddI : ad.add (i * 8) = ⟨g, i * 8, none⟩ := by rw [had, Addr.add_lit, Nat.zero_add]
 have hadd2 : ad2.add (i * 8) = ⟨g2, i * 8, none⟩ := by rw [had2, Addr.add_lit, Nat.zero_add]
 have hadd3 : ad2.add ((i + 1) * 8) = ⟨g2, (i + 1) * 8, none⟩ := by rw [had2, Addr.add_lit, Nat.zero_add]
 rw [← had, ← had2] at HRUN
 rw [← had]
 have hiN : (i : Int) ≤ (N : Int) := by omega
 have q0 : ((i : Int) == (N : Int)) = false := beq_eq_false_iff_ne.2 (by omega)
 have q1 : (c : Int) < (N : Int) + 1 := by omega
 have q2 : (i : Int) ≤ (c : Int) := by omega
 have q3 : (i : Int) ≤ (N : Int) + 1 := by omega
 have q4 : ¬ (c2 = i) := by omega
 have q5 : ¬ (c = i) := by omega
 clear had had2 h
 go_enter Tryz.func115, Tryz.ntmps115
 go_wp2_with (first | ((with_reducible refine gate_builtin (b := .append) (xs := #[.tmp 34, .tmp 39]) rfl ?_); refine append_by_run rfl (.tmp 34) (.tmp 39) rfl rfl rfl HRUN.out ?_) | ((with_reducible refine gate_builtin (b := .copy) (xs := #[.tmp 43, .tmp 44]) rfl ?_); refine copy_by_run rfl (.tmp 43) (.tmp 44) rfl rfl rfl (HCP2.out _ _ _ (by omega)) ?_))
 have r1 : (0 : Int) ≤ (i : Int) + 1 := by omega
 have r2 : ¬ (c2 = i + 1) := by omega
 have r3 : (i : Int) + 1 ≤ (N : Int) + 1 := by omega
 have htn : ((i : Int) + 1).toNat = i + 1 := by omega
 have hdl : N + 1 - (i + 1) = N - i := by omega
 have hw1 : IntKind.i64.wrap ((i : Int) + 1) = (i : Int) + 1 := by rw [IntKind.wrap_i64]; omega
 refine start_ (n := 9) (S := fun w' => True) (ds := [8]) #[false, false, false, false, false, false, false, false, false] (by kernel_rfl) rfl rfl trivial (fun hHeld => ?_)
 refine pure_ (i := 0) (N := some 46) (v := ?_) (a' := ?_) #[true, false, false, false, false, false, false, false, false] rfl rfl (by kernel_rfl) (fun _ _ _ h => h) (Or.inl ⟨by rfl, ?_⟩) ?_ ?_
 rotate_left
 ·
  intro w'
  go_simp
  with_reducible rfl
 rotate_left
 ·
  simp only [Act.put, Own.na, Own.nz, Own.ns, i64_w, i32_w]
  rfl
 refine pure_ (i := 1) (N := some 47) (v := ?_) (a' := ?_) #[true, true, false, false, false, false, false, false, false] rfl rfl (by kernel_rfl) (fun _ _ _ h => h) (Or.inl ⟨by rfl, ?_⟩) ?_ ?_
 rotate_left
 ·
  intro w'
  go_simp
  with_reducible rfl
 rotate_left
 ·
  simp only [Act.put, Own.na, Own.nz, Own.ns, i64_w, i32_w]
  rfl
 refine pure_ (i := 2) (N := some 48) (v := ?_) (a' := ?_) #[true, true, true, false, false, false, false, false, false] rfl rfl (by kernel_rfl) (fun _ _ _ h => h) (Or.inl ⟨by rfl, ?_⟩) ?_ ?_
 rotate_left
 ·
  intro w'
  go_simp
  with_reducible rfl
 rotate_left
 ·
  simp only [Act.put, Own.na, Own.nz, Own.ns, i64_w, i32_w]
  rfl
 refine pure_ (i := 3) (N := some 49) (v := ?_) (a' := ?_) #[true, true, true, true, false, false, false, false, false] rfl rfl (by kernel_rfl) (fun _ _ _ h => h) (Or.inl ⟨by rfl, ?_⟩) ?_ ?_
 rotate_left
 ·
  intro w'
  go_simp
  with_reducible rfl
 rotate_left
 ·
  simp only [Act.put, Own.na, Own.nz, Own.ns, i64_w, i32_w]
  rfl
 refine pure_ (i := 4) (N := some 50) (v := ?_) (a' := ?_) #[true, true, true, true, true, false, false, false, false] rfl rfl (by kernel_rfl) (fun _ _ _ h => h) (Or.inl ⟨by rfl, ?_⟩) ?_ ?_
 rotate_left
 ·
  intro w'
  go_simp
  with_reducible rfl
 rotate_left
 ·
  simp only [Act.put, Own.na, Own.nz, Own.ns, i64_w, i32_w]
  rfl
 refine pure_ (i := 5) (N := some 51) (v := ?_) (a' := ?_) #[true, true, true, true, true, true, false, false, false] rfl rfl (by kernel_rfl) (fun _ _ _ h => h) (Or.inl ⟨by rfl, ?_⟩) ?_ ?_
 rotate_left
 ·
  intro w'
  go_simp
  with_reducible rfl
 rotate_left
 ·
  simp only [Act.put, Own.na, Own.nz, Own.ns, i64_w, i32_w]
  rfl
 refine pure_ (i := 6) (N := some 52) (v := ?_) (a' := ?_) #[true, true, true, true, true, true, true, false, false] rfl rfl (by kernel_rfl) (fun _ _ _ h => h) (Or.inl ⟨by rfl, ?_⟩) ?_ ?_
 rotate_left
 ·
  intro w'
  go_simp
  with_reducible rfl
 rotate_left
 ·
  simp only [Act.put, Own.na, Own.nz, Own.ns, i64_w, i32_w]
  rfl
 refine pure_ (i := 7) (N := some 53) (v := ?_) (a' := ?_) #[true, true, true, true, true, true, true, true, false] rfl rfl (by kernel_rfl) (fun _ _ _ h => h) (Or.inl ⟨by rfl, ?_⟩) ?_ ?_
 rotate_left
 ·
  intro w'
  go_simp
  with_reducible rfl
 rotate_left
 ·
  simp only [Act.put, Own.na, Own.nz, Own.ns, i64_w, i32_w]
  rfl
 refine last_ (i := 8) (N := some 54) #[true, true, true, true, true, true, true, true, true] rfl rfl (by kernel_rfl) (by decide) (fun K hK => ?_)
 refine value_ (w1 := _) (v := _) (by rfl) rfl (copy_exec rfl rfl rfl (HCP3.out _ _ _ _ _ (by first | exact hdl | rfl) (by rfl))) ?_
 refine hK.out _ _ ?_
 clear hK K
 refine norm_ (a' := ?_) ?_ ?_
 rotate_left
 ·
  show Act.put _ (some 54) _ = _
  simp only [Act.put, Own.na, Own.nz, Own.ns, i64_w, i32_w]
  rfl
 refine done_ (by kernel_rfl) ?_
 clear hw1
 go_wp2
 go_ret
 exact ⟨_, rfl, by rw [← HAD.out.2] at HE; exact HE.out.1, HE.out.2⟩
set_option maxHeartbeats 4000000 in
set_option maxRecDepth 100000 in
theorem insert_end (W0 : World) (v : Value) (bv : Nat) (y0 : ByteArray) (y1 y2 y3 y4 y5 y6 : Int) (y7 : ByteArray) (l : List It) (W : World) (hN : l.length ≤ 1000000) (hB : Below W0.heap.size W0 W) (h : itemK.R 77 W W0.heap.size (fun _ => True) v l) (hv : W.heap[bv]? = some (.cells #[.string y0, .int .i64 y1, .int .u32 y2, .int .u32 y3, .int .u32 y4, .int .i64 y5, .int .i64 y6, .string y7] 77 (0, 0))) :
  Calls Tryz.prog 115 #[v, .int .i64 l.length, .slice (some ⟨bv, 0, none⟩) 1 1] W fun e w' => ∃ v1, e = .returned v1 ∧ itemK.R 77 w' W0.heap.size (fun _ => True) v1 (l ++ [(y0, y1, y2, y3, y4, y5, y6, y7)]) ∧ Below W0.heap.size W0 w' := by
 obtain ⟨A, c, rfl, hcap, hC⟩ := Kd.R_reads h
 have hy : ItemC W (some ⟨bv, 0, none⟩) [(y0, y1, y2, y3, y4, y5, y6, y7)] := ⟨rfl, by simp, fun _ => ⟨_, rfl, fun j p hj => by
  cases j with
  | succ j => simp at hj
  | zero =>
   have : (y0, y1, y2, y3, y4, y5, y6, y7) = p := by simpa using hj
   subst this
   exact ⟨cellsI (y0, y1, y2, y3, y4, y5, y6, y7), rfl, itemK_mk _ _, fun i u hu => by rw [show (0 * itemK.sz + i) = i by omega]; exact one_cells hv i u hu⟩⟩⟩
 have HR := Lib.hid h
 have HY := Lib.hid hy
 have HB := Lib.hid hB
 have HSZ := Lib.hid hB.size
 have hcI : (l.length : Int) ≤ (c : Int) := by omega
 clear h hC hy hB hv
 go_enter Tryz.func115, Tryz.ntmps115
 go_wp2_with (first | ((with_reducible refine gate_builtin (b := .append) (xs := #[.tmp 23, .tmp 24]) rfl ?_); at_builtin; refine Kd.R_append_rows itemK (w0 := W0) W0.heap.size rfl (.tmp 23) (.tmp 24) 41 77 (.agg #[.string ByteArray.empty, .int .i64 0, .int .u32 0, .int .u32 0, .int .u32 0, .int .i64 0, .int .i64 0, .string ByteArray.empty]) 72 rfl Tryz.underlying41 infoItem rfl (by decide) (by decide) _ l [(y0, y1, y2, y3, y4, y5, y6, y7)] (some ⟨bv, 0, none⟩) 1 1 (fun _ => True) (fun _ => False) rfl rfl (Rr := itemK.K W) HR.out HY.out (fun x cs h => itemK_K h ▸ itemK_M _ _ _ x) (fun _ hk => hk.elim) (fun _ _ => trivial) HB.out HSZ.out ?aL ?_; (case aL => omega); intro v1 w1 ho hb hg hat; have HO := Lib.hid ho; have HB1 := Lib.hid hb; clear ho hb hg hat))
 all_goals go_ret
 all_goals exact ⟨_, rfl, HO.out, HB1.out⟩
/-- slices.Insert of one item at a place. -/
theorem insert_any (W0 : World) (v : Value) (i bv : Nat) (y0 : ByteArray) (y1 y2 y3 y4 y5 y6 : Int) (y7 : ByteArray) (l : List It) (W : World) (hN : l.length ≤ 1000000) (hi : i ≤ l.length) (hB : Below W0.heap.size W0 W) (h : itemK.R 77 W W0.heap.size (fun _ => True) v l) (hv : W.heap[bv]? = some (.cells #[.string y0, .int .i64 y1, .int .u32 y2, .int .u32 y3, .int .u32 y4, .int .i64 y5, .int .i64 y6, .string y7] 77 (0, 0))) (hne : some bv ≠ v.ownBlock) :
  Calls Tryz.prog 115 #[v, .int .i64 i, .slice (some ⟨bv, 0, none⟩) 1 1] W fun e w' => ∃ v1, e = .returned v1 ∧ itemK.R 77 w' W0.heap.size (fun _ => True) v1 (l.take i ++ (y0, y1, y2, y3, y4, y5, y6, y7) :: l.drop i) ∧ Below W0.heap.size W0 w' := by
 rcases Nat.lt_or_ge i l.length with hlt | hge
 ·
  rcases row_cases h with ⟨rfl, rfl⟩ | ⟨g, c, rfl, hr⟩
  ·
   simp at hlt
  ·
   rcases Nat.lt_or_ge c (l.length + 1) with hc | hc
   ·
    exact insert_grow W0 g l.length c i bv y0 y1 y2 y3 y4 y5 y6 y7 l W hN hlt hc hB hr hv
   ·
    exact insert_room W0 g l.length c i bv y0 y1 y2 y3 y4 y5 y6 y7 l W hN hlt hc hB hr hv (fun e => hne (by rw [e]; rfl))
 ·
  have : i = l.length := by omega
  subst this
  rw [List.take_length, List.drop_length]
  exact insert_end W0 v bv y0 y1 y2 y3 y4 y5 y6 y7 l W hN hB h hv
end Go.Proofs.YtibmfjacfbpfgaaGreatDoor.TreeIns
