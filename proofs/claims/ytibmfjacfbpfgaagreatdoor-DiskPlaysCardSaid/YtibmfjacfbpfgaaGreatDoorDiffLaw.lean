/- tree's Differ, Fill and Put, as plain lists: that both answers are one. -/
import Derived.Test.YtibmfjacfbpfgaaGreatDoorFillA
import Derived.Test.YtibmfjacfbpfgaaGreatDoorRSort
set_option linter.unusedVariables false
set_option linter.unusedSimpArgs false
namespace Go.Proofs.YtibmfjacfbpfgaaGreatDoor.DiffLaw
open Stab SortLaw YtibmfjacfbpfgaaGreatDoor.Item TreeLaw NameLaw NameWalk NameOrd NameRef SortIns NodeRes TreeNodes FillLaw
theorem ins_put (t : List It) (x : It) : insR x (woP t x.1) = putP t x := by
 have e : (fun y => !ltI x y) = (fun y => !behind x.1 y) := by
  funext y
  unfold ltI behind;have := orderT_neg x.1 y.1;have h : (orderT x.1 y.1 < 0) ↔ (0 < orderT y.1 x.1) := by omega
  simp only [h]
 unfold insR putP;rw [e, List.takeWhile_eq_take_findIdx_not, List.dropWhile_eq_drop_findIdx_not];simp only [Bool.not_not]
theorem find_put_ne (t : List It) (x : It) {q : ByteArray} (h : q ≠ x.1) : findP (putP t x) q = findP t q := by
 have h1 : findP (woP t x.1) q = findP t q := by
  unfold findP woP;rw [List.find?_filter]
  congr 1
  funext y
  by_cases e : y.1 = q
  ·
   have : isAt x.1 y = false := decide_eq_false (fun e2 => h (by rw [← e, e2]));rw [this]; simp
  have : isAt q y = false := decide_eq_false e;rw [this]; simp
 have h2 : isAt q x = false := decide_eq_false (fun e => h e.symm);unfold putP;rw [← h1];generalize (woP t x.1).findIdx (behind x.1) = n;generalize woP t x.1 = o;unfold findP;rw [List.find?_append, List.find?_cons, h2]
 conv => rhs; rw [← List.take_append_drop n o, List.find?_append]
theorem node_put (t : List It) (p : ByteArray) (d : Nd) (q : ByteArray) : nodeP (putP t (p, d)) q = if q = p then some d else nodeP t q := by
 unfold nodeP
 by_cases h : q = p
 ·
  subst h;rw [if_pos rfl, find_put t (q, d)]; rfl
 rw [if_neg h, find_put_ne t (p, d) h]
def difB (a b : List It) (p : ByteArray) : Bool := decide (nodeP a p ≠ nodeP b p)
def p1 (a b : List It) (p : ByteArray) : Bool := difB a b p
def p2 (a : List It) (p : ByteArray) : Bool := !(nodeP a p).isSome
end Go.Proofs.YtibmfjacfbpfgaaGreatDoor.DiffLaw
