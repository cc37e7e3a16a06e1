/- a row of items of one's own, written in place. -/
import Derived.Test.YtibmfjacfbpfgaaGreatDoorItem
import Derived.Laws.IdiomCopy
set_option linter.unusedVariables false
set_option linter.unusedSimpArgs false
namespace Go.Proofs.YtibmfjacfbpfgaaGreatDoor.Own
open Go.RowKit YtibmfjacfbpfgaaGreatDoorW PrintWords PrintLast PrintMore YtibmfjacfbpfgaaGreatDoor.Item
theorem Hi {p : Prop} (h : p) : Hid p := Lib.hid h
theorem nA {α : Type} (l : List α) (i : Nat) (v : α) : l.toArray.setIfInBounds i v = (l.set i v).toArray := List.setIfInBounds_toArray l i v
theorem nZ {α : Type} (a b : α) (l : List α) : (a :: l).set 0 b = b :: l := rfl
theorem nS {α : Type} (a b : α) (l : List α) (n : Nat) : (a :: l).set (n + 1) b = a :: l.set n b := rfl
def bm (n k : Nat) : Array Bool := Array.ofFn (n := n) fun i => k.testBit i
theorem lo {w : World} {b : Nat} {o : Obj} (h : w.heap[b]? = some o) : b < w.heap.size := (Array.getElem?_eq_some_iff.1 h).1
theorem kp {w w1 : World} {b : Nat} {o : Obj} (hb : Below w.heap.size w w1) (h : w.heap[b]? = some o) : w1.heap[b]? = some o := (hb.block b (lo h)).trans h
theorem heap_new (w : World) (o : Obj) : (w.alloc o).heap[w.heap.size]? = some o := heap_alloc_new w o
theorem cell_of {w : World} {b : Nat} {cs : Array Value} {t : TypeId} {fr : Nat × Nat} (hb : w.heap[b]? = some (.cells cs t fr)) (j : Nat) : w.cell? ⟨b, j, none⟩ = cs[j]? := by
 simp [World.cell?, hb]
theorem cs7 {w : World} {b : Nat} {a0 a1 a2 a3 a4 a5 a6 : Value} {t : TypeId} {fr : Nat × Nat} (h : w.heap[b]? = some (.cells #[a0, a1, a2, a3, a4, a5, a6] t fr)) : w.cell? ⟨b, 0, none⟩ = some a0 ∧ w.cell? ⟨b, 1, none⟩ = some a1 ∧ w.cell? ⟨b, 2, none⟩ = some a2 ∧ w.cell? ⟨b, 3, none⟩ = some a3 ∧ w.cell? ⟨b, 4, none⟩ = some a4 ∧ w.cell? ⟨b, 5, none⟩ = some a5 ∧ w.cell? ⟨b, 6, none⟩ = some a6 := ⟨cell_of h 0, cell_of h 1, cell_of h 2, cell_of h 3, cell_of h 4, cell_of h 5, cell_of h 6⟩
theorem cs8 {w : World} {b : Nat} {a0 a1 a2 a3 a4 a5 a6 a7 : Value} {t : TypeId} {fr : Nat × Nat} (h : w.heap[b]? = some (.cells #[a0, a1, a2, a3, a4, a5, a6, a7] t fr)) : w.cell? ⟨b, 0, none⟩ = some a0 ∧ w.cell? ⟨b, 1, none⟩ = some a1 ∧ w.cell? ⟨b, 2, none⟩ = some a2 ∧ w.cell? ⟨b, 3, none⟩ = some a3 ∧ w.cell? ⟨b, 4, none⟩ = some a4 ∧ w.cell? ⟨b, 5, none⟩ = some a5 ∧ w.cell? ⟨b, 6, none⟩ = some a6 ∧ w.cell? ⟨b, 7, none⟩ = some a7 := ⟨cell_of h 0, cell_of h 1, cell_of h 2, cell_of h 3, cell_of h 4, cell_of h 5, cell_of h 6, cell_of h 7⟩
theorem cs10 {w : World} {b : Nat} {a0 a1 a2 a3 a4 a5 a6 a7 a8 a9 : Value} {t : TypeId} {fr : Nat × Nat} (h : w.heap[b]? = some (.cells #[a0, a1, a2, a3, a4, a5, a6, a7, a8, a9] t fr)) : w.cell? ⟨b, 0, none⟩ = some a0 ∧ w.cell? ⟨b, 1, none⟩ = some a1 ∧ w.cell? ⟨b, 2, none⟩ = some a2 ∧ w.cell? ⟨b, 3, none⟩ = some a3 ∧ w.cell? ⟨b, 4, none⟩ = some a4 ∧ w.cell? ⟨b, 5, none⟩ = some a5 ∧ w.cell? ⟨b, 6, none⟩ = some a6 ∧ w.cell? ⟨b, 7, none⟩ = some a7 ∧ w.cell? ⟨b, 8, none⟩ = some a8 ∧ w.cell? ⟨b, 9, none⟩ = some a9 := ⟨cell_of h 0, cell_of h 1, cell_of h 2, cell_of h 3, cell_of h 4, cell_of h 5, cell_of h 6, cell_of h 7, cell_of h 8, cell_of h 9⟩
theorem cs11 {w : World} {b : Nat} {a0 a1 a2 a3 a4 a5 a6 a7 a8 a9 a10 : Value} {t : TypeId} {fr : Nat × Nat} (h : w.heap[b]? = some (.cells #[a0, a1, a2, a3, a4, a5, a6, a7, a8, a9, a10] t fr)) : w.cell? ⟨b, 0, none⟩ = some a0 ∧ w.cell? ⟨b, 1, none⟩ = some a1 ∧ w.cell? ⟨b, 2, none⟩ = some a2 ∧ w.cell? ⟨b, 3, none⟩ = some a3 ∧ w.cell? ⟨b, 4, none⟩ = some a4 ∧ w.cell? ⟨b, 5, none⟩ = some a5 ∧ w.cell? ⟨b, 6, none⟩ = some a6 ∧ w.cell? ⟨b, 7, none⟩ = some a7 ∧ w.cell? ⟨b, 8, none⟩ = some a8 ∧ w.cell? ⟨b, 9, none⟩ = some a9 ∧ w.cell? ⟨b, 10, none⟩ = some a10 := ⟨cell_of h 0, cell_of h 1, cell_of h 2, cell_of h 3, cell_of h 4, cell_of h 5, cell_of h 6, cell_of h 7, cell_of h 8, cell_of h 9, cell_of h 10⟩
theorem cs14 {w : World} {b : Nat} {a0 a1 a2 a3 a4 a5 a6 a7 a8 a9 a10 a11 a12 a13 : Value} {t : TypeId} {fr : Nat × Nat} (h : w.heap[b]? = some (.cells #[a0, a1, a2, a3, a4, a5, a6, a7, a8, a9, a10, a11, a12, a13] t fr)) : w.cell? ⟨b, 0, none⟩ = some a0 ∧ w.cell? ⟨b, 1, none⟩ = some a1 ∧ w.cell? ⟨b, 2, none⟩ = some a2 ∧ w.cell? ⟨b, 3, none⟩ = some a3 ∧ w.cell? ⟨b, 4, none⟩ = some a4 ∧ w.cell? ⟨b, 5, none⟩ = some a5 ∧ w.cell? ⟨b, 6, none⟩ = some a6 ∧ w.cell? ⟨b, 7, none⟩ = some a7 ∧ w.cell? ⟨b, 8, none⟩ = some a8 ∧ w.cell? ⟨b, 9, none⟩ = some a9 ∧ w.cell? ⟨b, 10, none⟩ = some a10 ∧ w.cell? ⟨b, 11, none⟩ = some a11 ∧ w.cell? ⟨b, 12, none⟩ = some a12 ∧ w.cell? ⟨b, 13, none⟩ = some a13 := ⟨cell_of h 0, cell_of h 1, cell_of h 2, cell_of h 3, cell_of h 4, cell_of h 5, cell_of h 6, cell_of h 7, cell_of h 8, cell_of h 9, cell_of h 10, cell_of h 11, cell_of h 12, cell_of h 13⟩
theorem below_one (W : World) (o : Obj) : Below W.heap.size W (W.alloc o) := (Below.refl _ _).alloc (Nat.le_refl _) _
theorem frozen_of {w : World} {b : Nat} {cs : Array Value} {t : TypeId} (hb : w.heap[b]? = some (.cells cs t (0, 0))) (j : Nat) : w.frozen? ⟨b, j, none⟩ = false := by
 simp [World.frozen?, hb]
theorem set_grown (w : World) (b j : Nat) (u : Value) : w.grownBy (w.setCell ⟨b, j, none⟩ u) (some b) :=
 ⟨rfl, rfl, rfl, by simp [World.setCell], fun k _ hk => Below.heap_setCell _ _ _ _ (fun e => hk (by rw [e]))⟩
theorem grown_trans {a b c : World} {row : Option Nat} (h : a.grownBy b row) (k : b.grownBy c row) : a.grownBy c row :=
 ⟨k.os.trans h.os, k.tape.trans h.tape, k.output.trans h.output, Nat.le_trans h.size k.size, fun i hi hr => (k.block i (Nat.lt_of_lt_of_le hi h.size) hr).trans (h.block i hi hr)⟩
theorem below_grown {n : Nat} {w wr w1 : World} (h : Below n w wr) {row : Option Nat} (hn : n ≤ w.heap.size) (hg : wr.grownBy w1 row) (hr : ∀ x, row = some x → n ≤ x) : Below n w w1 :=
 h.trans ⟨hg.os, hg.tape, hg.output, hg.size, fun k hk => hg.block k (by have := h.size; omega) (fun e => by have := hr k e.symm; omega)⟩
abbrev Row (W : World) (n g N c : Nat) (l : List It) : Prop := l.length = N ∧ itemK.R 77 W n (fun _ => True) (.slice (some ⟨g, 0, none⟩) N c) l
theorem Row.of {W : World} {n g c : Nat} {l : List It} (h : itemK.R 77 W n (fun _ => True) (.slice (some ⟨g, 0, none⟩) l.length c) l) : Row W n g l.length c l := ⟨rfl, h⟩
theorem Row.below {W W1 : World} {n g N c : Nat} {l : List It} (h : Row W n g N c l) (hb : Below W.heap.size W W1) : Row W1 n g N c l := ⟨h.1, Kd.R_below h.2 hb⟩
theorem Row.base {W : World} {n g N c : Nat} {l : List It} (h : Row W n g N c l) : n ≤ g := Kd.R_base h.2 g rfl
theorem Row.lt {W : World} {n g N c : Nat} {l : List It} (h : Row W n g N c l) : g < W.heap.size := Kd.R_lt h.2 g rfl
theorem Row.blk {W : World} {n g N c : Nat} {l : List It} (h : Row W n g N c l) : ∃ cells, W.heap[g]? = some (.cells cells 77 (0, 0)) := by
 obtain ⟨inner, hown⟩ := Kd.R_own h.2;exact own_typed hown g rfl
theorem Row.fz {W : World} {n g N c : Nat} {l : List It} (h : Row W n g N c l) (j : Nat) : W.frozen? ⟨g, j, none⟩ = false := by
 obtain ⟨cells, hc⟩ := h.blk;exact frozen_of hc j
theorem own_put {W : World} {n g c k j : Nat} {s : List It} {u : Value} {y z : It} (h : Row W n g s.length c s) (hz : s[k]? = some z) (hj : j < 8) (hy : cellsI y = (cellsI z).set j u) :
  Row (W.setCell ⟨g, k * 8 + j, none⟩ u) n g s.length c (s.set k y) := by
 have hk := (List.getElem?_eq_some_iff.1 hz).1;have hzz : s[k] = z := by rw [List.getElem?_eq_getElem hk] at hz; exact Option.some.inj hz
 obtain ⟨_, hok, inner, ⟨hil, hown⟩, hr⟩ := h
 rcases hown with ⟨e, _⟩ | ⟨g', cap, cur, e, hb, hh, h1, h2, h3, h4⟩
 ·
  cases e
 injection e with e1 e2 e3
 injection e1 with e1
 injection e1 with e1
 subst e1 e3;have hil' : inner.length = s.length * 8 := hil;have hbase : ∀ q p, s[q]? = some p → (inner.drop (q * 8)).take 8 = cellsI p := fun q p hq => itemK_K (itemK.K_of_M (hr.2 q p hq))
 refine ⟨by rw [List.length_set], hok, inner.set (k * 8 + j) u, ⟨?_, .inr ⟨g, c, cur.setIfInBounds (k * 8 + j) u, by rw [List.length_set], hb, blk_set hh _ u, by rw [List.length_set]; exact h1, h2, by rw [Array.size_setIfInBounds]; exact h3, ?_⟩⟩, ?_, fun q p hq => ?_⟩
 ·
  rw [List.length_set, List.length_set]; exact hil
 ·
  have h4' : cur.toList.take (s.length * 8) = inner := h4
  show (cur.setIfInBounds (k * 8 + j) u).toList.take ((s.set k y).length * 8) = _
  rw [List.length_set, Array.toList_setIfInBounds, List.take_set, h4']
 ·
  show (inner.set (k * 8 + j) u).length = (s.set k y).length * 8
  rw [List.length_set, List.length_set]; exact hil'
 have hcs : ((inner.set (k * 8 + j) u).drop (q * 8)).take 8 = cellsI p := by
  rw [List.getElem?_set] at hq
  by_cases hqk : k = q
  ·
   subst hqk;rw [if_pos rfl, if_pos hk] at hq;injection hq with hq
   subst hq;rw [List.drop_set, if_neg (by omega), List.take_set, show k * 8 + j - k * 8 = j by omega, hbase k _ hz, hy]
  rw [if_neg hqk] at hq;rw [← hbase q p hq, List.drop_set]
  by_cases hlt : k * 8 + j < q * 8
  ·
   rw [if_pos hlt]
  rw [if_neg hlt, List.take_set, List.set_eq_of_length_le (by rw [List.length_take]; omega)]
 show itemK.M _ _ _ p (((inner.set (k * 8 + j) u).drop (q * 8)).take 8)
 rw [hcs];exact itemK_M _ _ _ _
section
variable {P : Program} {ops : Array Oper} {Q : Exit → Act → World → Prop}
end
end Go.Proofs.YtibmfjacfbpfgaaGreatDoor.Own
