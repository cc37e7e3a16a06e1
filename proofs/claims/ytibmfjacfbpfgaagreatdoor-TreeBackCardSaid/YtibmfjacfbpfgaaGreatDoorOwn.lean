/- a row of items of one's own, written in place. -/
import Derived.Test.YtibmfjacfbpfgaaGreatDoorItem
import Derived.Laws.IdiomCopy
set_option linter.unusedVariables false
set_option linter.unusedSimpArgs false
namespace Go.Proofs.YtibmfjacfbpfgaaGreatDoor.Own
open Go.RowKit YtibmfjacfbpfgaaGreatDoorW.PrintWords YtibmfjacfbpfgaaGreatDoorW.PrintLast YtibmfjacfbpfgaaGreatDoorW.PrintMore YtibmfjacfbpfgaaGreatDoor.Item
theorem na {α : Type} (l : List α) (i : Nat) (v : α) : l.toArray.setIfInBounds i v = (l.set i v).toArray := List.setIfInBounds_toArray l i v
theorem nz {α : Type} (a b : α) (l : List α) : (a :: l).set 0 b = b :: l := rfl
theorem ns {α : Type} (a b : α) (l : List α) (n : Nat) : (a :: l).set (n + 1) b = a :: l.set n b := rfl
theorem heap_new (w : World) (o : Obj) : (w.alloc o).heap[w.heap.size]? = some o := heap_alloc_new w o
theorem cell_of {w : World} {b : Nat} {cs : Array Value} {t : TypeId} {fr : Nat × Nat} (hb : w.heap[b]? = some (.cells cs t fr)) (j : Nat) : w.cell? ⟨b, j, none⟩ = cs[j]? := by
 simp [World.cell?, hb]
theorem below_one (W : World) (o : Obj) : Below W.heap.size W (W.alloc o) := (Below.refl _ _).alloc (Nat.le_refl _) _
theorem frozen_of {w : World} {b : Nat} {cs : Array Value} {t : TypeId} (hb : w.heap[b]? = some (.cells cs t (0, 0))) (j : Nat) : w.frozen? ⟨b, j, none⟩ = false := by
 simp [World.frozen?, hb]
theorem set_grown (w : World) (b j : Nat) (u : Value) : w.grownBy (w.setCell ⟨b, j, none⟩ u) (some b) :=
 ⟨rfl, rfl, rfl, by simp [World.setCell], fun k _ hk => Below.heap_setCell _ _ _ _ (fun e => hk (by rw [e]))⟩
theorem grown_trans {a b c : World} {row : Option Nat} (h : a.grownBy b row) (k : b.grownBy c row) : a.grownBy c row :=
 ⟨k.os.trans h.os, k.tape.trans h.tape, k.output.trans h.output, Nat.le_trans h.size k.size, fun i hi hr => (k.block i (Nat.lt_of_lt_of_le hi h.size) hr).trans (h.block i hi hr)⟩
theorem below_grown {n : Nat} {w wr w1 : World} (h : Below n w wr) {row : Option Nat} (hn : n ≤ w.heap.size) (hg : wr.grownBy w1 row) (hr : ∀ x, row = some x → n ≤ x) : Below n w w1 :=
 h.trans ⟨hg.os, hg.tape, hg.output, hg.size, fun k hk => hg.block k (by have := h.size; omega) (fun e => by have := hr k e.symm; omega)⟩
/-- A row of N items of one's own, in block g, from n on. -/
abbrev Row (W : World) (n g N c : Nat) (l : List It) : Prop := l.length = N ∧ itemK.R 77 W n (fun _ => True) (.slice (some ⟨g, 0, none⟩) N c) l
theorem Row.of {W : World} {n g c : Nat} {l : List It} (h : itemK.R 77 W n (fun _ => True) (.slice (some ⟨g, 0, none⟩) l.length c) l) : Row W n g l.length c l := ⟨rfl, h⟩
theorem Row.read {W : World} {n g N c : Nat} {l : List It} (h : Row W n g N c l) : ItemC W (some ⟨g, 0, none⟩) l := by
 obtain ⟨A, c', e, _, hC⟩ := Kd.R_reads h.2
 injection e with e1 e2 e3
 rw [e1]
 exact hC
theorem Row.below {W W1 : World} {n g N c : Nat} {l : List It} (h : Row W n g N c l) (hb : Below W.heap.size W W1) : Row W1 n g N c l := ⟨h.1, Kd.R_below h.2 hb⟩
theorem Row.base {W : World} {n g N c : Nat} {l : List It} (h : Row W n g N c l) : n ≤ g := Kd.R_base h.2 g rfl
theorem Row.lt {W : World} {n g N c : Nat} {l : List It} (h : Row W n g N c l) : g < W.heap.size := Kd.R_lt h.2 g rfl
theorem Row.blk {W : World} {n g N c : Nat} {l : List It} (h : Row W n g N c l) : ∃ cells, W.heap[g]? = some (.cells cells 77 (0, 0)) := by
 obtain ⟨inner, hown⟩ := Kd.R_own h.2
 exact own_typed hown g rfl
theorem Row.fz {W : World} {n g N c : Nat} {l : List It} (h : Row W n g N c l) (j : Nat) : W.frozen? ⟨g, j, none⟩ = false := by
 obtain ⟨cells, hc⟩ := h.blk
 exact frozen_of hc j
theorem row_at {W : World} {n g N c : Nat} {l : List It} (h : Row W n g N c l) {k : Nat} {y : It} (hk : l[k]? = some y) :
  W.cell? ⟨g, k * 8 + 0, none⟩ = some (.string y.1) ∧ W.cell? ⟨g, k * 8 + 1, none⟩ = some (.int .i64 y.2.1) ∧ W.cell? ⟨g, k * 8 + 2, none⟩ = some (.int .u32 y.2.2.1) ∧ W.cell? ⟨g, k * 8 + 3, none⟩ = some (.int .u32 y.2.2.2.1) ∧ W.cell? ⟨g, k * 8 + 4, none⟩ = some (.int .u32 y.2.2.2.2.1) ∧ W.cell? ⟨g, k * 8 + 5, none⟩ = some (.int .i64 y.2.2.2.2.2.1) ∧ W.cell? ⟨g, k * 8 + 6, none⟩ = some (.int .i64 y.2.2.2.2.2.2.1) ∧ W.cell? ⟨g, k * 8 + 7, none⟩ = some (.string y.2.2.2.2.2.2.2) := by
 have hlt := (List.getElem?_eq_some_iff.1 hk).1
 obtain ⟨ad, e, h0, h1, h2, h3, h4, h5, h6, h7⟩ := item_at h.read hlt
 injection e with e
 subst e
 have hy : l[k] = y := by rw [List.getElem?_eq_getElem hlt] at hk; exact Option.some.inj hk
 rw [hy] at h0 h1 h2 h3 h4 h5 h6 h7
 have ha : (⟨g, 0, none⟩ : Addr).add (k * 8) = ⟨g, k * 8, none⟩ := by rw [Addr.add_lit, Nat.zero_add]
 rw [ha] at h0 h1 h2 h3 h4 h5 h6 h7
 exact ⟨h0, h1, h2, h3, h4, h5, h6, h7⟩
theorem own_put {W : World} {n g c k j : Nat} {s : List It} {u : Value} {y z : It} (h : Row W n g s.length c s) (hz : s[k]? = some z) (hj : j < 8) (hy : cellsI y = (cellsI z).set j u) :
  Row (W.setCell ⟨g, k * 8 + j, none⟩ u) n g s.length c (s.set k y) := by
 have hk := (List.getElem?_eq_some_iff.1 hz).1
 have hzz : s[k] = z := by rw [List.getElem?_eq_getElem hk] at hz; exact Option.some.inj hz
 obtain ⟨_, hok, inner, ⟨hil, hown⟩, hr⟩ := h
 rcases hown with ⟨e, _⟩ | ⟨g', cap, cur, e, hb, hh, h1, h2, h3, h4⟩
 ·
  cases e
 ·
  injection e with e1 e2 e3
  injection e1 with e1
  injection e1 with e1
  subst e1 e3
  have hil' : inner.length = s.length * 8 := hil
  have hbase : ∀ q p, s[q]? = some p → (inner.drop (q * 8)).take 8 = cellsI p := fun q p hq => itemK_K (itemK.K_of_M (hr.2 q p hq))
  refine ⟨by rw [List.length_set], hok, inner.set (k * 8 + j) u, ⟨?_, .inr ⟨g, c, cur.setIfInBounds (k * 8 + j) u, by rw [List.length_set], hb, blk_set hh _ u, by rw [List.length_set]; exact h1, h2, by rw [Array.size_setIfInBounds]; exact h3, ?_⟩⟩, ?_, fun q p hq => ?_⟩
  ·
   rw [List.length_set, List.length_set]; exact hil
  ·
   have h4' : cur.toList.take (s.length * 8) = inner := h4
   show (cur.setIfInBounds (k * 8 + j) u).toList.take ((s.set k y).length * 8) = _
   rw [List.length_set, Array.toList_setIfInBounds, List.take_set, h4']
  ·
   show (inner.set (k * 8 + j) u).length = (s.set k y).length * 8
   rw [List.length_set, List.length_set]; exact hil'
  ·
   have hcs : ((inner.set (k * 8 + j) u).drop (q * 8)).take 8 = cellsI p := by
    rw [List.getElem?_set] at hq
    by_cases hqk : k = q
    ·
     subst hqk
     rw [if_pos rfl, if_pos hk] at hq
     injection hq with hq
     subst hq
     rw [List.drop_set, if_neg (by omega), List.take_set, show k * 8 + j - k * 8 = j by omega, hbase k _ hz, hy]
    ·
     rw [if_neg hqk] at hq
     rw [← hbase q p hq, List.drop_set]
     by_cases hlt : k * 8 + j < q * 8
     ·
      rw [if_pos hlt]
     ·
      rw [if_neg hlt, List.take_set, List.set_eq_of_length_le (by rw [List.length_take]; omega)]
   show itemK.M _ _ _ p (((inner.set (k * 8 + j) u).drop (q * 8)).take 8)
   rw [hcs]
   exact itemK_M _ _ _ _
theorem own_putN {W : World} {n g c k j N : Nat} {s : List It} {u : Value} {y z : It} (h : Row W n g N c s) (hz : s[k]? = some z) (hj : j < 8) (hy : cellsI y = (cellsI z).set j u) :
  Row (W.setCell ⟨g, k * 8 + j, none⟩ u) n g N c (s.set k y) := by
 have e := h.1
 subst e
 exact own_put h hz hj hy
/-- An item is written. -/
def put8 (W : World) (g k : Nat) (y : It) : World := (((((((W.setCell ⟨g, k * 8 + 0, none⟩ (.string y.1)).setCell ⟨g, k * 8 + 1, none⟩ (.int .i64 y.2.1)).setCell ⟨g, k * 8 + 2, none⟩ (.int .u32 y.2.2.1)).setCell ⟨g, k * 8 + 3, none⟩ (.int .u32 y.2.2.2.1)).setCell ⟨g, k * 8 + 4, none⟩ (.int .u32 y.2.2.2.2.1)).setCell ⟨g, k * 8 + 5, none⟩ (.int .i64 y.2.2.2.2.2.1)).setCell ⟨g, k * 8 + 6, none⟩ (.int .i64 y.2.2.2.2.2.2.1)).setCell ⟨g, k * 8 + 7, none⟩ (.string y.2.2.2.2.2.2.2)
theorem own_item {W : World} {n g c k N : Nat} {s : List It} {y z : It} (h : Row W n g N c s) (hz : s[k]? = some z) : Row (put8 W g k y) n g N c (s.set k y) ∧ W.grownBy (put8 W g k y) (some g) := by
 have hk := (List.getElem?_eq_some_iff.1 hz).1
 have e : ∀ (a b : It), (s.set k a).set k b = s.set k b := fun a b => List.set_set ..
 have f : ∀ a : It, (s.set k a)[k]? = some a := fun a => by rw [List.getElem?_set, if_pos rfl, if_pos hk]
 have h1 := own_putN (j := 0) (u := .string y.1) (y := (y.1, z.2.1, z.2.2.1, z.2.2.2.1, z.2.2.2.2.1, z.2.2.2.2.2.1, z.2.2.2.2.2.2.1, z.2.2.2.2.2.2.2)) h hz (by decide) rfl
 have h2 := own_putN (j := 1) (u := .int .i64 y.2.1) (y := (y.1, y.2.1, z.2.2.1, z.2.2.2.1, z.2.2.2.2.1, z.2.2.2.2.2.1, z.2.2.2.2.2.2.1, z.2.2.2.2.2.2.2)) h1 (f _) (by decide) rfl
 rw [e] at h2
 have h3 := own_putN (j := 2) (u := .int .u32 y.2.2.1) (y := (y.1, y.2.1, y.2.2.1, z.2.2.2.1, z.2.2.2.2.1, z.2.2.2.2.2.1, z.2.2.2.2.2.2.1, z.2.2.2.2.2.2.2)) h2 (f _) (by decide) rfl
 rw [e] at h3
 have h4 := own_putN (j := 3) (u := .int .u32 y.2.2.2.1) (y := (y.1, y.2.1, y.2.2.1, y.2.2.2.1, z.2.2.2.2.1, z.2.2.2.2.2.1, z.2.2.2.2.2.2.1, z.2.2.2.2.2.2.2)) h3 (f _) (by decide) rfl
 rw [e] at h4
 have h5 := own_putN (j := 4) (u := .int .u32 y.2.2.2.2.1) (y := (y.1, y.2.1, y.2.2.1, y.2.2.2.1, y.2.2.2.2.1, z.2.2.2.2.2.1, z.2.2.2.2.2.2.1, z.2.2.2.2.2.2.2)) h4 (f _) (by decide) rfl
 rw [e] at h5
 have h6 := own_putN (j := 5) (u := .int .i64 y.2.2.2.2.2.1) (y := (y.1, y.2.1, y.2.2.1, y.2.2.2.1, y.2.2.2.2.1, y.2.2.2.2.2.1, z.2.2.2.2.2.2.1, z.2.2.2.2.2.2.2)) h5 (f _) (by decide) rfl
 rw [e] at h6
 have h7 := own_putN (j := 6) (u := .int .i64 y.2.2.2.2.2.2.1) (y := (y.1, y.2.1, y.2.2.1, y.2.2.2.1, y.2.2.2.2.1, y.2.2.2.2.2.1, y.2.2.2.2.2.2.1, z.2.2.2.2.2.2.2)) h6 (f _) (by decide) rfl
 rw [e] at h7
 have h8 := own_putN (j := 7) (u := .string y.2.2.2.2.2.2.2) (y := (y.1, y.2.1, y.2.2.1, y.2.2.2.1, y.2.2.2.2.1, y.2.2.2.2.2.1, y.2.2.2.2.2.2.1, y.2.2.2.2.2.2.2)) h7 (f _) (by decide) rfl
 rw [e] at h8
 exact ⟨h8, grown_trans (grown_trans (grown_trans (grown_trans (grown_trans (grown_trans (grown_trans (set_grown _ _ _ _) (set_grown _ _ _ _)) (set_grown _ _ _ _)) (set_grown _ _ _ _)) (set_grown _ _ _ _)) (set_grown _ _ _ _)) (set_grown _ _ _ _)) (set_grown _ _ _ _)⟩
theorem row_set {W : World} {n g c k N : Nat} {s : List It} {z : It} (y : It) (h : Row W n g N c s) (hz : s[k]? = some z) : Row (W.setCells g (k * 8) (cellsI y)) n g N c (s.set k y) ∧ W.grownBy (W.setCells g (k * 8) (cellsI y)) (some g) := own_item (y := y) h hz
theorem run_store_item {W : World} {n g c k N : Nat} {s : List It} {z : It} (y : It) (h : Row W n g N c s) (hz : s[k]? = some z) :
  (storeVar 77 ⟨g, k * 8, none⟩ (.agg (cellsI y).toArray)).run Tryz.prog W = .ok () (W.setCells g (k * 8) (cellsI y)) := by
 have hr := row_at h hz
 have hst := run_storeCells_cells (P := Tryz.prog) g (k * 8) (cellsI y) 0 W (by
   intro j hj
   have hj : j < 8 := hj
   rw [show k * 8 + 0 + j = k * 8 + j by omega]
   match j, hj with
   | 0, _ => rw [hr.1]; rfl
   | 1, _ => rw [hr.2.1]; rfl
   | 2, _ => rw [hr.2.2.1]; rfl
   | 3, _ => rw [hr.2.2.2.1]; rfl
   | 4, _ => rw [hr.2.2.2.2.1]; rfl
   | 5, _ => rw [hr.2.2.2.2.2.1]; rfl
   | 6, _ => rw [hr.2.2.2.2.2.2.1]; rfl
   | 7, _ => rw [hr.2.2.2.2.2.2.2]; rfl) (fun j _ => h.fz _) (fun v hv => itemK.K_one (itemK_mk W y) v hv)
 obtain ⟨i0, hi, hzz⟩ := Option.map_eq_some_iff.1 infoItem
 simp only [Prod.mk.injEq] at hzz
 obtain ⟨_, hs, _⟩ := hzz
 simp only [Nat.add_zero] at hst
 have hc : (Value.agg (cellsI y).toArray).cells.toList = cellsI y := rfl
 have hsz : (Value.agg (cellsI y).toArray).cells.size = 8 := rfl
 simp only [storeVar, sizeOf, typeInfo, Sem.run_bind, run_program, hi, hs, hsz, hc, Result.andThen_ok, Sem.run_pure, ne_eq, not_true_eq_false, if_false]
 exact hst
/-- A store of an item into the row. -/
theorem store_item {W : World} {n g c k N : Nat} {s : List It} {z : It} {ad : Addr} {a : Act} {oi : Oper} {p v : Operand} (y : It) (hop : oi.op = .store 77 p v) (hp : a.eval p = .pointer (some (ad.add (k * 8)))) (hv : a.eval v = .agg (cellsI y).toArray) (had : ad = ⟨g, 0, none⟩)
  (h : Row W n g N c s) (hz : s[k]? = some z) : (execOp a.eval oi).run Tryz.prog W = .ok .skip (W.setCells g (k * 8) (cellsI y)) := by
 subst had
 rw [Addr.add_lit, Nat.zero_add] at hp
 unfold execOp
 simp only [hop, hp, hv, Instr.storeAt, Instr.sureAddr, Sem.run_bind, Sem.run_pure, Result.andThen_ok, run_store_item y h hz]
/-- An item of the row, as a load reads it. -/
theorem row_load {W : World} {n g N c : Nat} {l : List It} {ad : Addr} (h : Row W n g N c l) (had : ad = ⟨g, 0, none⟩) {k : Nat} {y : It} (hk : l[k]? = some y) :
  W.cell? (ad.add (k * 8)) = some (.string y.1) ∧ W.cell? ⟨(ad.add (k * 8)).block, (ad.add (k * 8)).off + 1, none⟩ = some (.int .i64 y.2.1) ∧ W.cell? ⟨(ad.add (k * 8)).block, (ad.add (k * 8)).off + 2, none⟩ = some (.int .u32 y.2.2.1) ∧ W.cell? ⟨(ad.add (k * 8)).block, (ad.add (k * 8)).off + 3, none⟩ = some (.int .u32 y.2.2.2.1) ∧ W.cell? ⟨(ad.add (k * 8)).block, (ad.add (k * 8)).off + 4, none⟩ = some (.int .u32 y.2.2.2.2.1) ∧ W.cell? ⟨(ad.add (k * 8)).block, (ad.add (k * 8)).off + 5, none⟩ = some (.int .i64 y.2.2.2.2.2.1) ∧ W.cell? ⟨(ad.add (k * 8)).block, (ad.add (k * 8)).off + 6, none⟩ = some (.int .i64 y.2.2.2.2.2.2.1) ∧ W.cell? ⟨(ad.add (k * 8)).block, (ad.add (k * 8)).off + 7, none⟩ = some (.string y.2.2.2.2.2.2.2) := by
 subst had
 have hlt := (List.getElem?_eq_some_iff.1 hk).1
 obtain ⟨ad, e, h0, h1, h2, h3, h4, h5, h6, h7⟩ := item_at h.read hlt
 injection e with e
 subst e
 have hy : l[k] = y := by rw [List.getElem?_eq_getElem hlt] at hk; exact Option.some.inj hk
 rw [hy] at h0 h1 h2 h3 h4 h5 h6 h7
 exact ⟨h0, h1, h2, h3, h4, h5, h6, h7⟩
section
variable {P : Program} {ops : Array Oper} {Q : Exit → Act → World → Prop}
/-- A call of a function value. -/
theorem goesC_ {oi : Oper} {N : Option Tmp} {a : Act} {w : World} {K : Act → World → Prop} {f : FuncId} {fn : Func} {aos : Array Operand} {ts : Array TypeId} {x : Tmp} (hf : P.funcs[f]? = some fn) (hname : (fn.name == "runtime.NumGoroutine") = false) (hb : fn.body.isSome = true) (args : Array Value)
  (hw : Region.wanted oi (yielded ops a.tmps) = true) (hN : oi.dst = N) (hop : oi.op = .call { callee := .value (.tmp x), args := aos, argTypes := ts }) (hx : a.tmps.getD x undef = .func (.func f) #[] #[]) (hargs : aos.map a.eval = args)
  (h : Calls P f args w fun e w' => ∃ v, e = .returned v ∧ K (a.put N v) w') : if Region.wanted oi (yielded ops a.tmps) = true then Oper.wp P oi a w K Q else K (a.put N undef) w := by
 refine call_ f args hw hN ?_ h
 have he := enters_ hf hname hb args w
 have hx' : a.eval (.tmp x) = .func (.func f) #[] #[] := hx
 unfold execOp
 simp [hop, hx', resolve, Deferred.ofValue, invoke, hargs, he]
end
end Go.Proofs.YtibmfjacfbpfgaaGreatDoor.Own
