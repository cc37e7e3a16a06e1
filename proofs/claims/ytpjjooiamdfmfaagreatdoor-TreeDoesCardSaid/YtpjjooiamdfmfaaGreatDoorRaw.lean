/- rows of items of one's own, cell by cell: what they hold as a list of cells; stores, copies, clears into them; append of make. -/
import Derived.Test.YtpjjooiamdfmfaaGreatDoorOwn
import Derived.Laws.CopyRow
import Derived.Laws.IdiomCopy
set_option linter.unusedVariables false
set_option linter.unusedSimpArgs false
namespace Go.Proofs.YtpjjooiamdfmfaaGreatDoor.Raw
open Go.RowKit Go.Proofs.YtpjjooiamdfmfaaGreatDoorW.PrintWords Go.Proofs.YtpjjooiamdfmfaaGreatDoorW.PrintLast Go.Proofs.YtpjjooiamdfmfaaGreatDoorW.PrintMore Go.Proofs.YtpjjooiamdfmfaaGreatDoor.Item Go.Proofs.YtpjjooiamdfmfaaGreatDoor.Own

def flat (l : List It) : List Value := l.flatMap cellsI
theorem cellsI_len (x : It) : (cellsI x).length = 8 := rfl
theorem flat_nil : flat [] = [] := rfl
theorem flat_cons (x : It) (l : List It) : flat (x :: l) = cellsI x ++ flat l := rfl
theorem flat_append (l m : List It) : flat (l ++ m) = flat l ++ flat m := List.flatMap_append
theorem flat_len : ∀ l : List It, (flat l).length = l.length * 8
  | [] => rfl
  | x :: l => by rw [flat_cons, List.length_append, cellsI_len, flat_len l, List.length_cons]; omega
theorem flat_take (l : List It) (k : Nat) : (flat l).take (k * 8) = flat (l.take k) := by
  induction l generalizing k with
  | nil => simp [flat_nil]
  | cons x l ih =>
    cases k with
    | zero => simp [flat_nil]
    | succ k =>
      rw [flat_cons, List.take_succ_cons, flat_cons, show (k + 1) * 8 = (cellsI x).length + k * 8 by rw [cellsI_len]; omega, List.take_length_add_append, ih]
theorem flat_drop (l : List It) (k : Nat) : (flat l).drop (k * 8) = flat (l.drop k) := by
  induction l generalizing k with
  | nil => simp [flat_nil]
  | cons x l ih =>
    cases k with
    | zero => simp
    | succ k =>
      rw [flat_cons, List.drop_succ_cons, show (k + 1) * 8 = (cellsI x).length + k * 8 by rw [cellsI_len]; omega, List.drop_length_add_append, ih]
theorem flat_uniq : ∀ (l : List It) (inner : List Value), inner.length = l.length * 8 → (∀ q p, l[q]? = some p → (inner.drop (q * 8)).take 8 = cellsI p) → inner = flat l
  | [], inner, h, _ => List.eq_nil_of_length_eq_zero (by simpa using h)
  | x :: l, inner, h, hq => by
    have h0 := hq 0 x rfl
    rw [Nat.zero_mul, List.drop_zero] at h0
    have ih := flat_uniq l (inner.drop 8) (by rw [List.length_drop, h, List.length_cons]; omega) (fun q p hp => by
      have := hq (q + 1) p (by simpa using hp)
      rw [List.drop_drop, show 8 + q * 8 = (q + 1) * 8 by omega]
      exact this)
    rw [flat_cons, ← ih, ← h0, List.take_append_drop]
theorem flat_at (l : List It) {q : Nat} {p : It} (h : l[q]? = some p) : ((flat l).drop (q * 8)).take 8 = cellsI p := by
  obtain ⟨hq, e⟩ := List.getElem?_eq_some_iff.1 h
  rw [flat_drop, List.drop_eq_getElem_cons hq, e, flat_cons, List.take_append_of_le_length (by rw [cellsI_len]; exact Nat.le_refl _), List.take_of_length_le (by rw [cellsI_len]; exact Nat.le_refl _)]
theorem cellsI_one (x : It) : ∀ v ∈ cellsI x, v.oneCell' = true := by
  intro v hv
  simp only [cellsI, List.mem_cons, List.not_mem_nil, or_false] at hv
  rcases hv with rfl | rfl | rfl | rfl | rfl | rfl | rfl | rfl <;> rfl
theorem flat_one (l : List It) : ∀ v ∈ flat l, v.oneCell' = true := by
  intro v hv
  obtain ⟨x, _, hx⟩ := List.mem_flatMap.1 hv
  exact cellsI_one x v hx
/-- The block of a row: its cells, all there is room for. -/
structure RawAt (W : World) (n g c : Nat) (cur : List Value) : Prop where
  blk : W.heap[g]? = some (.cells cur.toArray 33 (0, 0))
  size : cur.length = c * 8
  cap : c ≤ maxLen
  base : n ≤ g
theorem Row.raw {W : World} {n g N c : Nat} {l : List It} (h : Row W n g N c l) : ∃ cur, RawAt W n g c cur ∧ N ≤ c ∧ cur.take (N * 8) = flat l := by
  obtain ⟨hN, hok, inner, ⟨hil, hown⟩, hr⟩ := h
  rcases hown with ⟨e, _⟩ | ⟨g', cap, cur, e, hb, hh, h1, h2, h3, h4⟩
  · cases e
  · injection e with e1 e2 e3
    injection e1 with e1
    injection e1 with e1
    subst e1 e3
    have hin : inner = flat l := flat_uniq l inner hil (fun q p hq => itemK_K (itemK.K_of_M (hr.2 q p hq)))
    subst hN
    refine ⟨cur.toList, ⟨by simpa using hh, by rw [Array.length_toList]; exact h3, h2, hb⟩, h1, ?_⟩
    rw [← hin]; exact h4
theorem Row.ofRaw {W : World} {n g N c : Nat} {l : List It} {cur : List Value} (h : RawAt W n g c cur) (hN : l.length = N) (hc : N ≤ c) (he : cur.take (N * 8) = flat l) : Row W n g N c l := by
  subst hN
  refine ⟨rfl, fun _ _ => trivial, flat l, ⟨flat_len l, .inr ⟨g, c, cur.toArray, rfl, h.base, h.blk, hc, h.cap, by rw [List.size_toArray]; exact h.size, ?_⟩⟩, flat_len l, fun q p hq => ?_⟩
  · rw [List.toList_toArray]; exact he
  · show itemK.M _ _ _ p (((flat l).drop (q * 8)).take 8)
    rw [flat_at l hq]
    exact itemK_M _ _ _ _
theorem RawAt.cell {W : World} {n g c : Nat} {cur : List Value} (h : RawAt W n g c cur) (j : Nat) : W.cell? ⟨g, j, none⟩ = cur[j]? := by
  rw [cell_of h.blk]; simp
/-- cells are laid into the row, from cell o on. -/
def laid (cur vs : List Value) (o : Nat) : List Value := cur.take o ++ vs ++ cur.drop (o + vs.length)
theorem laid_len {cur vs : List Value} {o : Nat} (h : o + vs.length ≤ cur.length) : (laid cur vs o).length = cur.length := by
  unfold laid
  simp only [List.length_append, List.length_take, List.length_drop]
  omega
theorem RawAt.lay {W : World} {n g c : Nat} {cur vs : List Value} {o : Nat} (h : RawAt W n g c cur) (ho : o + vs.length ≤ cur.length) : RawAt (W.setRow g (laid cur vs o).toArray) n g c (laid cur vs o) ∧ W.grownBy (W.setRow g (laid cur vs o).toArray) (some g) := by
  refine ⟨⟨setRow_heap W g _ _ _ _ h.blk, by rw [laid_len ho]; exact h.size, h.cap, h.base⟩, ⟨rfl, rfl, rfl, by simp [World.setRow], fun k _ hk => setRow_other W g k _ (fun e => hk (by rw [e]))⟩⟩
theorem run_store_raw {W : World} {n g c : Nat} {cur : List Value} (h : RawAt W n g c cur) (vs : List Value) (o : Nat) (ho : o + vs.length ≤ cur.length) (h1 : ∀ v ∈ vs, v.oneCell' = true) :
    (storeCells ⟨g, o, none⟩ vs 0).run Tryz.prog W = .ok () (W.setRow g (laid cur vs o).toArray) := by
  have := run_storeCells_at Tryz.prog g o 33 vs 0 cur.toArray W h.blk (by simpa using ho) h1
  simpa [laid] using this
theorem itemInfo : ∃ i0 : TypeInfo, Tryz.prog.info? 33 = some i0 ∧ i0.zero = some (.agg #[.string ByteArray.empty, .int .i64 0, .int .u32 0, .int .u32 0, .int .u32 0, .int .i64 0, .int .i64 0, .string ByteArray.empty]) ∧ i0.size = 8 ∧ i0.bytes = 72 := by
  obtain ⟨i0, hi, hzz⟩ := Option.map_eq_some_iff.1 infoItem
  simp only [Prod.mk.injEq] at hzz
  exact ⟨i0, hi, hzz.1, hzz.2.1, hzz.2.2⟩
/-- copy into the row: cs is what the source held. -/
theorem run_copy_raw {W : World} {n g c : Nat} {cur : List Value} (h : RawAt W n g c cur) {dT sT ty : TypeId} (hu : Tryz.prog.underlying dT = some (.slice 33)) (o dLen dCap : Nat) (a : Addr) (sLen sCap : Nat) (cs : List Value) (hn : cs.length = Nat.min sLen dLen * 8)
    (hsrc : ∀ j v, cs[j]? = some v → W.cell? (a.add j) = some v) (ho : o + cs.length ≤ cur.length) (h1 : ∀ v ∈ cs, v.oneCell' = true) :
    (Builtin.copy_ #[dT, sT] ty #[.slice (some ⟨g, o, none⟩) dLen dCap, .slice (some a) sLen sCap]).run Tryz.prog W = .ok (goInt (Nat.min sLen dLen)) (W.setRow g (laid cur cs o).toArray) := by
  have hl := run_loadCells_list (P := Tryz.prog) W a cs hsrc
  have hst := run_store_raw h cs o ho h1
  obtain ⟨i0, hi, hz, hs, hb⟩ := itemInfo
  have hm : Nat.min sLen dLen * i0.size = cs.length := by rw [hs, hn]
  simp [Builtin.copy_, run_underlying hu, Builtin.lenOf, Builtin.firstCells, sizeOf, typeInfo, hi, hm, hl, hst]
theorem copy_exec {W W1 : World} {a : Act} {oi : Oper} {d s : Operand} {dT sT : TypeId} {vd vs v : Value} (hop : oi.op = .call { callee := .builtin .copy, args := #[d, s], argTypes := #[dT, sT] }) (hd : a.eval d = vd) (hs : a.eval s = vs)
    (hrun : (Builtin.copy_ #[dT, sT] oi.type #[vd, vs]).run Tryz.prog W = .ok v W1) : (execOp a.eval oi).run Tryz.prog W = .ok (.value v) W1 := by
  unfold execOp
  simp only [hop, resolve, invoke, builtin, Sem.run_bind, Sem.run_pure, Result.andThen_ok, List.map_toArray, List.map_cons, List.map_nil, hd, hs, hrun]
theorem copy_by_run {P : Program} {ops : Array Oper} {rest : List Oper} {o : Oper} {a : Act} {Q : Exit → Act → World → Prop} {W w1 : World} {v u v1 : Value} {t1 t2 : TypeId} (hgd : o.guard = none) (s x : Operand)
    (ho : o.op = .call { callee := .builtin .copy, args := #[s, x], argTypes := #[t1, t2] }) (hs : a.eval s = v) (hx : a.eval x = u) (hrun : (Builtin.copy_ #[t1, t2] o.type #[v, u]).run P W = .ok v1 w1)
    (h : wpList P ops Q rest (a.put o.dst v1) w1) : wpList P ops Q (o :: rest) a W := by
  refine wpList_plain hgd fun K hK => ?_
  unfold Oper.wp execOp
  simp only [ho, resolve, invoke, builtin, Sem.run_bind, Sem.run_pure, Result.andThen_ok, List.map_toArray, List.map_cons, List.map_nil, hs, hx, hrun]
  exact hK _ _ h
theorem append_by_run {P : Program} {ops : Array Oper} {rest : List Oper} {o : Oper} {a : Act} {Q : Exit → Act → World → Prop} {W w1 : World} {v u v1 : Value} {t1 t2 : TypeId} (hgd : o.guard = none) (s x : Operand)
    (ho : o.op = .call { callee := .builtin .append, args := #[s, x], argTypes := #[t1, t2] }) (hs : a.eval s = v) (hx : a.eval x = u) (hrun : (Builtin.append_ #[t1, t2] o.type #[v, u]).run P W = .ok v1 w1)
    (h : wpList P ops Q rest (a.put o.dst v1) w1) : wpList P ops Q (o :: rest) a W := by
  refine wpList_plain hgd fun K hK => ?_
  unfold Oper.wp execOp
  simp only [ho, resolve, invoke, builtin, Sem.run_bind, Sem.run_pure, Result.andThen_ok, List.map_toArray, List.map_cons, List.map_nil, hs, hx, hrun]
  exact hK _ _ h
theorem clear_by_run {P : Program} {ops : Array Oper} {rest : List Oper} {o : Oper} {a : Act} {Q : Exit → Act → World → Prop} {W w1 : World} {u v1 : Value} {t1 : TypeId} (hgd : o.guard = none) (x : Operand)
    (ho : o.op = .call { callee := .builtin .clear, args := #[x], argTypes := #[t1] }) (hx : a.eval x = u) (hrun : (Builtin.clear_ #[t1] o.type #[u]).run P W = .ok v1 w1)
    (h : wpList P ops Q rest (a.put o.dst v1) w1) : wpList P ops Q (o :: rest) a W := by
  refine wpList_plain hgd fun K hK => ?_
  unfold Oper.wp execOp
  simp only [ho, resolve, invoke, builtin, Sem.run_bind, Sem.run_pure, Result.andThen_ok, List.map_toArray, List.map_cons, List.map_nil, hx, hrun]
  exact hK _ _ h
/-- A store of an item, in a plain region. -/
theorem store_by_run {ops : Array Oper} {rest : List Oper} {o : Oper} {a : Act} {Q : Exit → Act → World → Prop} {W : World} {n g c k N : Nat} {s : List It} {z : It} {ad : Addr} {p v : Operand} (y : It) (hgd : o.guard = none) (hop : o.op = .store 33 p v) (hdst : o.dst = none) (hp : a.eval p = .pointer (some (ad.add (k * 8)))) (hv : a.eval v = .agg (cellsI y).toArray) (had : ad = ⟨g, 0, none⟩)
    (h : Row W n g N c s) (hz : s[k]? = some z) (hk : wpList Tryz.prog ops Q rest a (W.setCells g (k * 8) (cellsI y))) : wpList Tryz.prog ops Q (o :: rest) a W := by
  refine wpList_plain hgd fun K hK => ?_
  unfold Oper.wp
  rw [store_item y hop hp hv had h hz]
  show K (a.put o.dst undef) _
  rw [hdst]
  exact hK _ _ hk
def zc (m : Nat) : List Value := (Builtin.zeroCells (Value.agg #[.string ByteArray.empty, .int .i64 0, .int .u32 0, .int .u32 0, .int .u32 0, .int .i64 0, .int .i64 0, .string ByteArray.empty]).cells m).toList
theorem zc_len (m : Nat) : (zc m).length = m * 8 := by
  unfold zc
  rw [Array.length_toList, size_zeroCells]; rfl
theorem zc_one (m : Nat) : ∀ v ∈ zc m, v.oneCell' = true := by
  intro v hv
  unfold zc Builtin.zeroCells at hv
  rw [Array.toList_map] at hv
  obtain ⟨i, _, rfl⟩ := List.mem_map.1 hv
  have : i % 8 < 8 := Nat.mod_lt _ (by omega)
  show (#[Value.string ByteArray.empty, .int .i64 0, .int .u32 0, .int .u32 0, .int .u32 0, .int .i64 0, .int .i64 0, .string ByteArray.empty][i % 8]!).oneCell' = true
  generalize i % 8 = r at *
  match r, this with
  | 0, _ => rfl
  | 1, _ => rfl
  | 2, _ => rfl
  | 3, _ => rfl
  | 4, _ => rfl
  | 5, _ => rfl
  | 6, _ => rfl
  | 7, _ => rfl
/-- What lies behind a place is cleared. -/
theorem run_clear_raw {W : World} {n g c : Nat} {cur : List Value} (h : RawAt W n g c cur) {t ty : TypeId} (hu : Tryz.prog.underlying t = some (.slice 33)) (i m cap : Nat) (hm : 0 < m) (ho : (i + m) * 8 ≤ cur.length) :
    (Builtin.clear_ #[t] ty #[.slice (some ⟨g, i * 8, none⟩) m cap]).run Tryz.prog W = .ok (.tuple #[]) (W.setRow g (laid cur (zc m) (i * 8)).toArray) := by
  have hst := run_store_raw h (zc m) (i * 8) (by rw [zc_len]; omega) (zc_one m)
  obtain ⟨i0, hi, hz, hs, hb⟩ := itemInfo
  obtain ⟨z, hz1, hz2⟩ : ∃ z, i0.zero = some z ∧ (Builtin.zeroCells z.cells m).toList = zc m := ⟨_, hz, rfl⟩
  clear hz
  generalize zc m = zs at *
  obtain ⟨m, rfl⟩ : ∃ k, m = k + 1 := ⟨m - 1, by omega⟩
  simp [Builtin.clear_, run_underlying hu, zeroValue, typeInfo, hi, hz1, hz2, hst]
end Go.Proofs.YtpjjooiamdfmfaaGreatDoor.Raw
