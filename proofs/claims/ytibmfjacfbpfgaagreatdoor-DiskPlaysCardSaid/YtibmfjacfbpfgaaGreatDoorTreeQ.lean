/- tree: Clone of items; its closures; IndexFunc of items. -/
import Derived.Test.YtibmfjacfbpfgaaGreatDoorSortX
import Derived.Test.YtibmfjacfbpfgaaGreatDoorNameB
import Derived.Laws.ResultCell
import Derived.Test.YtibmfjacfbpfgaaGreatDoorOwn
import Derived.Laws.CopyRow
import Derived.Laws.IdiomCopy
import Derived.Deep.RegionLaw
import Derived.Lib.Overlaps
import Derived.Laws.Externs
set_option linter.unusedVariables false
set_option linter.unusedSimpArgs false
namespace Go.Proofs.YtibmfjacfbpfgaaGreatDoor.TreeFn
open Go.RowKit YtibmfjacfbpfgaaGreatDoorW PrintWords PrintLast PrintMore YtibmfjacfbpfgaaGreatDoor.Item Own TreeLaw NameLaw NameWalk NameOrd NameRef NameUse SortIns
def Asks (U : World) (F bc : Nat) (p : It → Bool) (l : List It) : Prop :=
 (∀ args w, (callFunc F args).run Tryz.prog w = .ok (.enter F args) w) ∧
 ∀ x0 x1 x2 x3 x4 x5 x6 x7, (x0, x1, x2, x3, x4, x5, x6, x7) ∈ l → ∀ W, Below U.heap.size U W → Calls Tryz.prog F #[.agg #[.string x0, .int .i64 x1, .int .u32 x2, .int .u32 x3, .int .u32 x4, .int .i64 x5, .int .i64 x6, .string x7], .pointer (some ⟨bc, 0, none⟩)] W fun e w' => e = .returned (.bool (p (x0, x1, x2, x3, x4, x5, x6, x7))) ∧ Below W.heap.size W w'
theorem Asks.of {U : World} {F bc : Nat} {p : It → Bool} {l m : List It} (h : Asks U F bc p l) (hm : ∀ x ∈ m, x ∈ l) : Asks U F bc p m := ⟨h.1, fun x0 x1 x2 x3 x4 x5 x6 x7 hx W hW => h.2 x0 x1 x2 x3 x4 x5 x6 x7 (hm _ hx) W hW⟩
theorem Asks.later {U W : World} {F bc : Nat} {p : It → Bool} {l : List It} (h : Asks U F bc p l) (hb : Below U.heap.size U W) : Asks W F bc p l := ⟨h.1, fun x0 x1 x2 x3 x4 x5 x6 x7 hx V hV => h.2 x0 x1 x2 x3 x4 x5 x6 x7 hx V (hb.trans (hV.mono hb.size))⟩
def idxP (p : It → Bool) (l : List It) : Int := if l.findIdx p < l.length then (l.findIdx p : Int) else -1
theorem idx_at {p : It → Bool} {l : List It} {k : Nat} (hk : k < l.length) (h : ∀ j (hj : j < k), p (l[j]'(by omega)) = false) (hp : p l[k] = true) : l.findIdx p = k := by
 refine (List.findIdx_eq hk).2 ⟨hp, fun j hj => h j hj⟩
theorem idx_none {p : It → Bool} {l : List It} (h : ∀ j (hj : j < l.length), p l[j] = false) : l.findIdx p = l.length := by
 refine List.findIdx_eq_length.2 (fun x hx => ?_);obtain ⟨j, hj, e⟩ := List.mem_iff_getElem.1 hx;rw [← e]; exact h j hj
set_option maxHeartbeats 2000000 in
theorem index_any (F bc : Nat) (p : It → Bool) (l : List It) (A : Option Addr) (c : Nat) (W : World) (hl : ItemC W A l) (hp : Asks W F bc p l) :
  Calls Tryz.prog 113 #[.slice A l.length c, .func (.func F) #[] #[.pointer (some ⟨bc, 0, none⟩)]] W fun e w' => e = .returned (.int .i64 (idxP p l)) ∧ Below W.heap.size W w' := by
 have HL := Hi hl;have l1 := hl.2.1;have eg := hp.1;have HP := Hi hp.2;have HK0 : Hid (∀ j (hj : j < l.length), j < 0 → p l[j] = false) := Hi (fun j hj h => absurd h (Nat.not_lt_zero _));clear hl hp;go_enter Tryz.func113, Tryz.ntmps113;go_wp2
 go_loopw [5, 8] (fun vi v wr => ∃ k : Nat, k ≤ l.length ∧ v = .int .i64 k ∧ Hid (∀ j (hj : j < l.length), j < k → p l[j] = false) ∧ Hid (Below W.heap.size W wr)) (fun vi v _ => l.length - (intOf v).toNat)
 case atStart => exact ⟨0, by omega, rfl, HK0, Hi (Below.refl _ _)⟩
 clear HK0;obtain ⟨k, hk, rfl, HK, HB⟩ := hrel
 by_cases hlt : k < l.length
 ·
  obtain ⟨ad, rfl, e0, e1, e2, e3, e4, e5, e6, e7⟩ := item_at (Kd.C_below HL.out HB.out) hlt;have hltI : (k : Int) < l.length := by omega
  have hc := HP.out l[k].1 l[k].2.1 l[k].2.2.1 l[k].2.2.2.1 l[k].2.2.2.2.1 l[k].2.2.2.2.2.1 l[k].2.2.2.2.2.2.1 l[k].2.2.2.2.2.2.2 (List.getElem_mem hlt) wr HB.out;have hpx : Hid (∃ q, q = p l[k]) := Hi ⟨_, rfl⟩;have HX : Hid (l[k] = l[k]) := Hi rfl;obtain ⟨x, hx⟩ : ∃ x, x = l[k] := ⟨_, rfl⟩;rw [← hx] at e0 e1 e2 e3 e4 e5 e6 e7 hc;have HXK := Hi hx;clear hx hpx HX;obtain ⟨x0, x1, x2, x3, x4, x5, x6, x7⟩ := x;simp only at e0 e1 e2 e3 e4 e5 e6 e7 hc;obtain ⟨q, hq⟩ : ∃ q, q = p (x0, x1, x2, x3, x4, x5, x6, x7) := ⟨_, rfl⟩;rw [← hq] at hc;have HQ := Hi hq;have HC := Hi hc;clear hc hq
  cases q with
  | true =>
   have HI : Hid (idxP p l = (k : Int)) := Hi (by
    have e := idx_at hlt (fun j hj => HK.out j (by omega) hj) (by rw [← HXK.out]; exact HQ.out.symm);unfold idxP
    rw [e, if_pos hlt])
   go_wp2_with (go_at_fn F; refine HC.out.mono ?_; rintro e w1 ⟨rfl, hb⟩; have HB1 := Hi (below_next HB.out hb); clear hb)
   go_ret;exact ⟨by rw [HI.out]; rfl, HB1.out⟩
  | false =>
   have HK1 : Hid (∀ j (hj : j < l.length), j < k + 1 → p l[j] = false) := Hi (fun j hj h => by
    rcases Nat.lt_or_ge j k with h2 | h2
    ·
     exact HK.out j hj h2
    have : j = k := by omega
    subst this
    rw [← HXK.out]; exact HQ.out.symm)
   clear HXK HK HQ
   go_wp2_with (go_at_fn F; refine HC.out.mono ?_; rintro e w1 ⟨rfl, hb⟩; have HB1 := Hi (below_next HB.out hb); clear hb)
   go_roundw
   case rel => exact ⟨k + 1, by omega, by go_num, HK1, HB1⟩
   case measure => simp [intOf]; omega
 have HI : Hid (idxP p l = -1) := Hi (by
  have e := idx_none (p := p) (l := l) (fun j hj => HK.out j hj (by omega));unfold idxP
  rw [e, if_neg (Nat.lt_irrefl _)])
 go_wp2;go_ret;exact ⟨by rw [HI.out]; rfl, HB.out⟩
end Go.Proofs.YtibmfjacfbpfgaaGreatDoor.TreeFn
namespace Go.Proofs.YtibmfjacfbpfgaaGreatDoor.Raw
open Go.RowKit YtibmfjacfbpfgaaGreatDoorW PrintWords PrintLast PrintMore YtibmfjacfbpfgaaGreatDoor.Item Own
def flat (l : List It) : List Value := l.flatMap cellsI
theorem cellsI_len (x : It) : (cellsI x).length = 8 := rfl
theorem flat_nil : flat [] = [] := rfl
theorem flat_cons (x : It) (l : List It) : flat (x :: l) = cellsI x ++ flat l := rfl
theorem flat_append (l m : List It) : flat (l ++ m) = flat l ++ flat m := List.flatMap_append
theorem flat_len : ∀ l : List It, (flat l).length = l.length * 8
 | [] => rfl
 | x :: l => by rw [flat_cons, List.length_append, cellsI_len, flat_len l, List.length_cons]; omega
theorem flat_take (l : List It) (k : Nat) : (flat l).take (k * 8) = flat (l.take k) := by
 induction l generalizing k with
 | nil => simp [flat_nil]
 | cons x l ih =>
  cases k with
  | zero => simp [flat_nil]
  | succ k =>
   rw [flat_cons, List.take_succ_cons, flat_cons, show (k + 1) * 8 = (cellsI x).length + k * 8 by rw [cellsI_len]; omega, List.take_length_add_append, ih]
theorem flat_drop (l : List It) (k : Nat) : (flat l).drop (k * 8) = flat (l.drop k) := by
 induction l generalizing k with
 | nil => simp [flat_nil]
 | cons x l ih =>
  cases k with
  | zero => simp
  | succ k =>
   rw [flat_cons, List.drop_succ_cons, show (k + 1) * 8 = (cellsI x).length + k * 8 by rw [cellsI_len]; omega, List.drop_length_add_append, ih]
theorem flat_uniq : ∀ (l : List It) (inner : List Value), inner.length = l.length * 8 → (∀ q p, l[q]? = some p → (inner.drop (q * 8)).take 8 = cellsI p) → inner = flat l
 | [], inner, h, _ => List.eq_nil_of_length_eq_zero (by simpa using h)
 | x :: l, inner, h, hq => by
  have h0 := hq 0 x rfl;rw [Nat.zero_mul, List.drop_zero] at h0
  have ih := flat_uniq l (inner.drop 8) (by rw [List.length_drop, h, List.length_cons]; omega) (fun q p hp => by
   have := hq (q + 1) p (by simpa using hp);rw [List.drop_drop, show 8 + q * 8 = (q + 1) * 8 by omega]
   exact this)
  rw [flat_cons, ← ih, ← h0, List.take_append_drop]
theorem flat_at (l : List It) {q : Nat} {p : It} (h : l[q]? = some p) : ((flat l).drop (q * 8)).take 8 = cellsI p := by
 obtain ⟨hq, e⟩ := List.getElem?_eq_some_iff.1 h;rw [flat_drop, List.drop_eq_getElem_cons hq, e, flat_cons, List.take_append_of_le_length (by rw [cellsI_len]; exact Nat.le_refl _), List.take_of_length_le (by rw [cellsI_len]; exact Nat.le_refl _)]
theorem cellsI_one (x : It) : ∀ v ∈ cellsI x, v.oneCell' = true := by
 intro v hv;simp only [cellsI, List.mem_cons, List.not_mem_nil, or_false] at hv
 rcases hv with rfl | rfl | rfl | rfl | rfl | rfl | rfl | rfl <;> rfl
theorem flat_one (l : List It) : ∀ v ∈ flat l, v.oneCell' = true := by
 intro v hv;obtain ⟨x, _, hx⟩ := List.mem_flatMap.1 hv;exact cellsI_one x v hx
structure RawAt (W : World) (n g c : Nat) (cur : List Value) : Prop where
 blk : W.heap[g]? = some (.cells cur.toArray 77 (0, 0))
 size : cur.length = c * 8
 cap : c ≤ maxLen
 base : n ≤ g
theorem Row.raw {W : World} {n g N c : Nat} {l : List It} (h : Row W n g N c l) : ∃ cur, RawAt W n g c cur ∧ N ≤ c ∧ cur.take (N * 8) = flat l := by
 obtain ⟨hN, hok, inner, ⟨hil, hown⟩, hr⟩ := h
 rcases hown with ⟨e, _⟩ | ⟨g', cap, cur, e, hb, hh, h1, h2, h3, h4⟩
 ·
  cases e
 injection e with e1 e2 e3
 injection e1 with e1
 injection e1 with e1
 subst e1 e3;have hin : inner = flat l := flat_uniq l inner hil (fun q p hq => itemK_K (itemK.K_of_M (hr.2 q p hq)));subst hN;refine ⟨cur.toList, ⟨by simpa using hh, by rw [Array.length_toList]; exact h3, h2, hb⟩, h1, ?_⟩;rw [← hin]; exact h4
theorem Row.ofRaw {W : World} {n g N c : Nat} {l : List It} {cur : List Value} (h : RawAt W n g c cur) (hN : l.length = N) (hc : N ≤ c) (he : cur.take (N * 8) = flat l) : Row W n g N c l := by
 subst hN;refine ⟨rfl, fun _ _ => trivial, flat l, ⟨flat_len l, .inr ⟨g, c, cur.toArray, rfl, h.base, h.blk, hc, h.cap, by rw [List.size_toArray]; exact h.size, ?_⟩⟩, flat_len l, fun q p hq => ?_⟩
 ·
  rw [List.toList_toArray]; exact he
 show itemK.M _ _ _ p (((flat l).drop (q * 8)).take 8)
 rw [flat_at l hq];exact itemK_M _ _ _ _
theorem RawAt.cell {W : World} {n g c : Nat} {cur : List Value} (h : RawAt W n g c cur) (j : Nat) : W.cell? ⟨g, j, none⟩ = cur[j]? := by
 rw [cell_of h.blk]; simp
def laid (cur vs : List Value) (o : Nat) : List Value := cur.take o ++ vs ++ cur.drop (o + vs.length)
theorem laid_len {cur vs : List Value} {o : Nat} (h : o + vs.length ≤ cur.length) : (laid cur vs o).length = cur.length := by
 unfold laid;simp only [List.length_append, List.length_take, List.length_drop];omega
theorem RawAt.lay {W : World} {n g c : Nat} {cur vs : List Value} {o : Nat} (h : RawAt W n g c cur) (ho : o + vs.length ≤ cur.length) : RawAt (W.setRow g (laid cur vs o).toArray) n g c (laid cur vs o) ∧ W.grownBy (W.setRow g (laid cur vs o).toArray) (some g) := by
 refine ⟨⟨setRow_heap W g _ _ _ _ h.blk, by rw [laid_len ho]; exact h.size, h.cap, h.base⟩, ⟨rfl, rfl, rfl, by simp [World.setRow], fun k _ hk => setRow_other W g k _ (fun e => hk (by rw [e]))⟩⟩
theorem run_store_raw {W : World} {n g c : Nat} {cur : List Value} (h : RawAt W n g c cur) (vs : List Value) (o : Nat) (ho : o + vs.length ≤ cur.length) (h1 : ∀ v ∈ vs, v.oneCell' = true) :
  (storeCells ⟨g, o, none⟩ vs 0).run Tryz.prog W = .ok () (W.setRow g (laid cur vs o).toArray) := by
 have := run_storeCells_at Tryz.prog g o 77 vs 0 cur.toArray W h.blk (by simpa using ho) h1
 simpa [laid] using this
theorem itemInfo : ∃ i0 : TypeInfo, Tryz.prog.info? 77 = some i0 ∧ i0.zero = some (.agg #[.string ByteArray.empty, .int .i64 0, .int .u32 0, .int .u32 0, .int .u32 0, .int .i64 0, .int .i64 0, .string ByteArray.empty]) ∧ i0.size = 8 ∧ i0.bytes = 72 := by
 obtain ⟨i0, hi, hzz⟩ := Option.map_eq_some_iff.1 infoItem;simp only [Prod.mk.injEq] at hzz;exact ⟨i0, hi, hzz.1, hzz.2.1, hzz.2.2⟩
theorem run_copy_raw {W : World} {n g c : Nat} {cur : List Value} (h : RawAt W n g c cur) {dT sT ty : TypeId} (hu : Tryz.prog.underlying dT = some (.slice 77)) (o dLen dCap : Nat) (a : Addr) (sLen sCap : Nat) (cs : List Value) (hn : cs.length = Nat.min sLen dLen * 8)
  (hsrc : ∀ j v, cs[j]? = some v → W.cell? (a.add j) = some v) (ho : o + cs.length ≤ cur.length) (h1 : ∀ v ∈ cs, v.oneCell' = true) :
  (Builtin.copy_ #[dT, sT] ty #[.slice (some ⟨g, o, none⟩) dLen dCap, .slice (some a) sLen sCap]).run Tryz.prog W = .ok (goInt (Nat.min sLen dLen)) (W.setRow g (laid cur cs o).toArray) := by
 have hl := run_loadCells_list (P := Tryz.prog) W a cs hsrc;have hst := run_store_raw h cs o ho h1;obtain ⟨i0, hi, hz, hs, hb⟩ := itemInfo;have hm : Nat.min sLen dLen * i0.size = cs.length := by rw [hs, hn]
 simp [Builtin.copy_, run_underlying hu, Builtin.lenOf, Builtin.firstCells, sizeOf, typeInfo, hi, hm, hl, hst]
theorem copy_exec {W W1 : World} {a : Act} {oi : Oper} {d s : Operand} {dT sT : TypeId} {vd vs v : Value} (hop : oi.op = .call { callee := .builtin .copy, args := #[d, s], argTypes := #[dT, sT] }) (hd : a.eval d = vd) (hs : a.eval s = vs)
  (hrun : (Builtin.copy_ #[dT, sT] oi.type #[vd, vs]).run Tryz.prog W = .ok v W1) : (execOp a.eval oi).run Tryz.prog W = .ok (.value v) W1 := by
 unfold execOp;simp only [hop, resolve, invoke, builtin, Sem.run_bind, Sem.run_pure, Result.andThen_ok, List.map_toArray, List.map_cons, List.map_nil, hd, hs, hrun]
theorem copy_by_run {P : Program} {ops : Array Oper} {rest : List Oper} {o : Oper} {a : Act} {Q : Exit → Act → World → Prop} {W w1 : World} {v u v1 : Value} {t1 t2 : TypeId} (hgd : o.guard = none) (s x : Operand)
  (ho : o.op = .call { callee := .builtin .copy, args := #[s, x], argTypes := #[t1, t2] }) (hs : a.eval s = v) (hx : a.eval x = u) (hrun : (Builtin.copy_ #[t1, t2] o.type #[v, u]).run P W = .ok v1 w1)
  (h : wpList P ops Q rest (a.put o.dst v1) w1) : wpList P ops Q (o :: rest) a W := by
 refine wpList_plain hgd fun K hK => ?_
 unfold Oper.wp execOp;simp only [ho, resolve, invoke, builtin, Sem.run_bind, Sem.run_pure, Result.andThen_ok, List.map_toArray, List.map_cons, List.map_nil, hs, hx, hrun];exact hK _ _ h
theorem append_by_run {P : Program} {ops : Array Oper} {rest : List Oper} {o : Oper} {a : Act} {Q : Exit → Act → World → Prop} {W w1 : World} {v u v1 : Value} {t1 t2 : TypeId} (hgd : o.guard = none) (s x : Operand)
  (ho : o.op = .call { callee := .builtin .append, args := #[s, x], argTypes := #[t1, t2] }) (hs : a.eval s = v) (hx : a.eval x = u) (hrun : (Builtin.append_ #[t1, t2] o.type #[v, u]).run P W = .ok v1 w1)
  (h : wpList P ops Q rest (a.put o.dst v1) w1) : wpList P ops Q (o :: rest) a W := by
 refine wpList_plain hgd fun K hK => ?_
 unfold Oper.wp execOp;simp only [ho, resolve, invoke, builtin, Sem.run_bind, Sem.run_pure, Result.andThen_ok, List.map_toArray, List.map_cons, List.map_nil, hs, hx, hrun];exact hK _ _ h
theorem clear_by_run {P : Program} {ops : Array Oper} {rest : List Oper} {o : Oper} {a : Act} {Q : Exit → Act → World → Prop} {W w1 : World} {u v1 : Value} {t1 : TypeId} (hgd : o.guard = none) (x : Operand)
  (ho : o.op = .call { callee := .builtin .clear, args := #[x], argTypes := #[t1] }) (hx : a.eval x = u) (hrun : (Builtin.clear_ #[t1] o.type #[u]).run P W = .ok v1 w1)
  (h : wpList P ops Q rest (a.put o.dst v1) w1) : wpList P ops Q (o :: rest) a W := by
 refine wpList_plain hgd fun K hK => ?_
 unfold Oper.wp execOp;simp only [ho, resolve, invoke, builtin, Sem.run_bind, Sem.run_pure, Result.andThen_ok, List.map_toArray, List.map_cons, List.map_nil, hx, hrun];exact hK _ _ h
end Go.Proofs.YtibmfjacfbpfgaaGreatDoor.Raw
namespace Go.Proofs.YtibmfjacfbpfgaaGreatDoor.TreeDel
open Go.RowKit YtibmfjacfbpfgaaGreatDoorW PrintWords PrintLast PrintMore YtibmfjacfbpfgaaGreatDoor.Item Own Raw TreeLaw NameWalk SortSwap SortIns TreeFn
structure Kept (p : It → Bool) (l d : List It) (i j : Nat) : Prop where
 len : d.length = l.length
 lt : i < j
 le : j ≤ l.length
 head : d.take i = (l.take j).filter (fun x => !p x)
 tail : d.drop j = l.drop j
theorem Kept.at {p : It → Bool} {l d : List It} {i j : Nat} (h : Kept p l d i j) (hj : j < l.length) : d[j]? = some l[j] := by
 have := h.tail;rw [List.drop_eq_getElem_cons hj] at this;have h2 : (d.drop j)[0]? = some l[j] := by rw [this]; rfl
 rw [List.getElem?_drop, Nat.add_zero] at h2;exact h2
theorem Kept.skip {p : It → Bool} {l d : List It} {i j : Nat} (h : Kept p l d i j) (hj : j < l.length) (hp : p l[j] = true) : Kept p l d i (j + 1) where
 len := h.len
 lt := by have := h.lt; omega
 le := hj
 head := by
  rw [h.head, ← List.take_append_getElem hj, List.filter_append, List.filter_cons_of_neg (by simp [hp]), List.filter_nil, List.append_nil]
 tail := by
  rw [← List.drop_drop, h.tail, List.drop_drop]
theorem Kept.keep {p : It → Bool} {l d : List It} {i j : Nat} (h : Kept p l d i j) (hj : j < l.length) (hp : p l[j] = false) : Kept p l (d.set i l[j]) (i + 1) (j + 1) where
 len := by rw [List.length_set]; exact h.len
 lt := by have := h.lt; omega
 le := hj
 head := by
  have hi : i < d.length := by have := h.lt; have := h.len; omega
  have hi2 : i < (d.set i l[j]).length := by rw [List.length_set]; exact hi
  rw [← List.take_append_getElem hi2, List.getElem_set_self, List.take_set, List.set_eq_of_length_le (by rw [List.length_take]; omega), h.head, ← List.take_append_getElem hj, List.filter_append, List.filter_cons_of_pos (by simp [hp]), List.filter_nil]
 tail := by
  rw [List.drop_set, if_pos (by have := h.lt; omega), ← List.drop_drop, h.tail, List.drop_drop]
theorem Kept.done {p : It → Bool} {l d : List It} {i : Nat} (h : Kept p l d i l.length) : d.take i = l.filter (fun x => !p x) := by
 rw [h.head, List.take_length]
theorem below_next_ {U W W1 : World} (h : Below U.heap.size U W) (k : Below W.heap.size W W1) : Below U.heap.size U W1 := h.trans (k.mono h.size)
theorem row_cases {W : World} {n : Nat} {v : Value} {l : List It} (h : itemK.R 77 W n (fun _ => True) v l) : (v = .slice none 0 0 ∧ l = []) ∨ ∃ g c, v = .slice (some ⟨g, 0, none⟩) l.length c ∧ Row W n g l.length c l := by
 obtain ⟨inner, hown⟩ := Kd.R_own h
 rcases hown.2 with ⟨e, hn⟩ | ⟨g, cap, cur, e, _⟩
 ·
  exact .inl ⟨e, List.eq_nil_of_length_eq_zero hn⟩
 exact .inr ⟨g, cap, e, rfl, by rw [← e]; exact h⟩
theorem Row.R {W : World} {n g N c : Nat} {l : List It} (h : Row W n g N c l) : itemK.R 77 W n (fun _ => True) (.slice (some ⟨g, 0, none⟩) N c) l := h.2
end Go.Proofs.YtibmfjacfbpfgaaGreatDoor.TreeDel
namespace Go.Proofs.YtibmfjacfbpfgaaGreatDoor.TreeIns
open Go.RowKit YtibmfjacfbpfgaaGreatDoorW PrintWords PrintLast PrintMore YtibmfjacfbpfgaaGreatDoor.Item Own Raw TreeLaw NameWalk SortSwap SortIns TreeFn TreeDel
theorem laid_front {cur vs : List Value} {o : Nat} (ho : o ≤ cur.length) : (laid cur vs o).take (o + vs.length) = cur.take o ++ vs := by
 unfold laid;have e : (cur.take o ++ vs).length = o + vs.length := by rw [List.length_append, List.length_take]; omega
 rw [← e, List.take_left]
theorem laid_below {cur vs : List Value} {o k : Nat} (ho : o ≤ cur.length) (hk : k ≤ o) : (laid cur vs o).take k = cur.take k := by
 unfold laid;rw [List.append_assoc, List.take_append_of_le_length (by rw [List.length_take]; omega), List.take_take, Nat.min_eq_left hk]
theorem laid_behind {cur vs : List Value} {o : Nat} (ho : o ≤ cur.length) : (laid cur vs o).drop (o + vs.length) = cur.drop (o + vs.length) := by
 unfold laid;have e : (cur.take o ++ vs).length = o + vs.length := by rw [List.length_append, List.length_take]; omega
 rw [← e, List.drop_left]
theorem RawAt.drew {W : World} {n g c : Nat} {cur : List Value} (h : RawAt W n g c cur) : RawAt W.drew n g c cur := ⟨h.blk, h.size, h.cap, h.base⟩
theorem shifted {l : List It} {cur : List Value} {i N : Nat} (y : It) (hN : l.length = N) (hi : i < N) (hc : (N + 1) * 8 ≤ cur.length) (he : cur.take (N * 8) = flat l) :
  (laid (laid cur (flat (l.drop i)) ((i + 1) * 8)) (cellsI y) (i * 8)).take ((N + 1) * 8) = flat (l.take i ++ y :: l.drop i) := by
 have hd : (flat (l.drop i)).length = (N - i) * 8 := by rw [flat_len, List.length_drop, hN]
 have h1 : (laid cur (flat (l.drop i)) ((i + 1) * 8)).length = cur.length := laid_len (by rw [hd]; omega);have h2 := laid_front (cur := cur) (vs := flat (l.drop i)) (o := (i + 1) * 8) (by omega)
 have e0 : (laid (laid cur (flat (l.drop i)) ((i + 1) * 8)) (cellsI y) (i * 8)).take ((N + 1) * 8) = (laid (laid cur (flat (l.drop i)) ((i + 1) * 8)) (cellsI y) (i * 8)).take ((i + 1) * 8) ++ ((laid (laid cur (flat (l.drop i)) ((i + 1) * 8)) (cellsI y) (i * 8)).drop ((i + 1) * 8)).take ((N - i) * 8) := by
  rw [← List.take_add]; congr 1; omega
 have e1 : (laid (laid cur (flat (l.drop i)) ((i + 1) * 8)) (cellsI y) (i * 8)).take ((i + 1) * 8) = flat (l.take i) ++ cellsI y := by
  have := laid_front (cur := laid cur (flat (l.drop i)) ((i + 1) * 8)) (vs := cellsI y) (o := i * 8) (by omega);rw [cellsI_len, show i * 8 + 8 = (i + 1) * 8 by omega] at this;rw [this, laid_below (by omega) (by omega), ← flat_take, ← he, List.take_take, Nat.min_eq_left (by omega)]
 have e2 : ((laid (laid cur (flat (l.drop i)) ((i + 1) * 8)) (cellsI y) (i * 8)).drop ((i + 1) * 8)).take ((N - i) * 8) = flat (l.drop i) := by
  have := laid_behind (cur := laid cur (flat (l.drop i)) ((i + 1) * 8)) (vs := cellsI y) (o := i * 8) (by omega);rw [cellsI_len, show i * 8 + 8 = (i + 1) * 8 by omega] at this;rw [this];have h3 : ((laid cur (flat (l.drop i)) ((i + 1) * 8)).take ((i + 1) * 8 + (flat (l.drop i)).length)).drop ((i + 1) * 8) = (cur.take ((i + 1) * 8) ++ flat (l.drop i)).drop ((i + 1) * 8) := by rw [h2]
  rw [hd, List.drop_take, show (i + 1) * 8 + (N - i) * 8 - (i + 1) * 8 = (N - i) * 8 by omega] at h3;rw [h3];have hl : (cur.take ((i + 1) * 8)).length = (i + 1) * 8 := by rw [List.length_take]; omega
  exact List.drop_left' hl
 rw [e0, e1, e2, flat_append, flat_cons, List.append_assoc]
theorem joined {l : List It} {cur : List Value} {i N : Nat} (y : It) (hN : l.length = N) (hi : i < N) (hc : (N + 1) * 8 ≤ cur.length) (he : cur.take (i * 8) = flat (l.take i)) :
  (laid (laid cur (cellsI y) (i * 8)) (flat (l.drop i)) ((i + 1) * 8)).take ((N + 1) * 8) = flat (l.take i ++ y :: l.drop i) := by
 have hd : (flat (l.drop i)).length = (N - i) * 8 := by rw [flat_len, List.length_drop, hN]
 have h1 : (laid cur (cellsI y) (i * 8)).length = cur.length := laid_len (by rw [cellsI_len]; omega);have h2 := laid_front (cur := laid cur (cellsI y) (i * 8)) (vs := flat (l.drop i)) (o := (i + 1) * 8) (by omega);rw [hd, show (i + 1) * 8 + (N - i) * 8 = (N + 1) * 8 by omega] at h2;have h3 := laid_front (cur := cur) (vs := cellsI y) (o := i * 8) (by omega);rw [cellsI_len, show i * 8 + 8 = (i + 1) * 8 by omega] at h3;rw [h2, h3, he, flat_append, flat_cons, List.append_assoc]
theorem one_cells {W : World} {b : Nat} {y0 : ByteArray} {y1 y2 y3 y4 y5 y6 : Int} {y7 : ByteArray} (h : W.heap[b]? = some (.cells #[.string y0, .int .i64 y1, .int .u32 y2, .int .u32 y3, .int .u32 y4, .int .i64 y5, .int .i64 y6, .string y7] 77 (0, 0))) : ∀ j v, (cellsI (y0, y1, y2, y3, y4, y5, y6, y7))[j]? = some v → W.cell? ((⟨b, 0, none⟩ : Addr).add j) = some v := by
 intro j v hj;rw [Addr.add_lit, Nat.zero_add, cell_of h, ← hj];simp
end Go.Proofs.YtibmfjacfbpfgaaGreatDoor.TreeIns
