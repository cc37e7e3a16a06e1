/- sort: symMerge, where one stands ahead. -/
import Derived.Test.YtibmfjacfbpfgaaGreatDoorSortX
import Derived.Deep.Light
import Derived.Deep.DeepCutAuto
set_option linter.unusedVariables false
set_option linter.unusedSimpArgs false
namespace Go.Proofs.YtibmfjacfbpfgaaGreatDoor.SortMrgA
open Go.RowKit YtibmfjacfbpfgaaGreatDoorW PrintWords PrintLast PrintMore YtibmfjacfbpfgaaGreatDoor.Item Own Stab SortLaw TreeLaw NameWalk SortSwap SortIns
theorem cutB {u : List It} {y : It} {i : Nat} (hs : Sorted ltI u) (hi : i ≤ u.length) (h1 : i = 0 ∨ ∃ x, u[i - 1]? = some x ∧ ltI y x = false) (h2 : i = u.length ∨ ∃ x, u[i]? = some x ∧ ltI y x = true) : Stb ltI (u ++ [y]) (u.take i ++ y :: u.drop i) := by
 have := tail_done swoI (u1 := u.take i) (u2 := u.drop i) (y := y) (by rw [List.take_append_drop]; exact hs) ?_ ?_
 ·
  rw [List.take_append_drop] at this; exact this
 ·
  intro x hx
  rcases h1 with e | ⟨z, hz, hl⟩
  ·
   subst e; simp at hx
  by_cases h0 : i = 0
  ·
   subst h0; simp at hx
  rw [List.getLast?_eq_getElem?, List.length_take, Nat.min_eq_left hi, List.getElem?_take_of_lt (by omega), hz] at hx;injection hx with hx
  rw [← hx]; exact hl
 intro x hx;rw [List.head?_drop] at hx
 rcases h2 with e | ⟨z, hz, hl⟩
 ·
  subst e; simp at hx
 rw [hz] at hx;injection hx with hx
 rw [← hx]; exact hl
theorem in_left {p u q : List It} {k : Nat} (h : k < u.length) : (p ++ (u ++ q))[p.length + k]? = u[k]? := by
 rw [List.getElem?_append_right (by omega), show p.length + k - p.length = k by omega, List.getElem?_append_left h]
end Go.Proofs.YtibmfjacfbpfgaaGreatDoor.SortMrgA
namespace Go.Proofs.YtibmfjacfbpfgaaGreatDoor.SortMrgB
open Go.RowKit YtibmfjacfbpfgaaGreatDoorW PrintWords PrintLast PrintMore YtibmfjacfbpfgaaGreatDoor.Item Own Stab SortLaw TreeLaw NameWalk SortSwap SortIns SortMrgA
end Go.Proofs.YtibmfjacfbpfgaaGreatDoor.SortMrgB
namespace Go.Proofs.YtibmfjacfbpfgaaGreatDoor.SortMrgC
open Go.RowKit YtibmfjacfbpfgaaGreatDoorW PrintWords PrintLast PrintMore YtibmfjacfbpfgaaGreatDoor.Item Own Stab SortLaw TreeLaw NameWalk SortSwap SortIns SortMrgA SortMrgB
theorem cutC {u v p q L : List It} {a m b n st s0 r0 mid : Nat} (hL : L = p ++ (u ++ (v ++ q))) (ha : a = p.length) (hm : m = a + u.length) (hb : b = m + v.length) (hn : n = mid + m) (h0 : a ≤ s0) (h1 : n ≤ b + s0) (h2 : r0 ≤ mid) (h3 : r0 ≤ m) (hs : s0 ≤ st) (hr : st ≤ r0)
  (hS : s0 = a ∨ s0 + b = n) (hR : r0 = mid ∨ r0 = m) (k1 : st = s0 ∨ ∃ x y, L[st - 1]? = some x ∧ L[n - st]? = some y ∧ ltI y x = false) (k2 : st = r0 ∨ ∃ x y, L[st]? = some x ∧ L[n - 1 - st]? = some y ∧ ltI y x = true) :
  (∀ x y, (u.take (st - a)).getLast? = some x → (v.drop (n - st - m)).head? = some y → ltI y x = false) ∧ (∀ y x, (v.take (n - st - m)).getLast? = some y → (u.drop (st - a)).head? = some x → ltI y x = true) := by
 have atU : ∀ k, k < u.length → L[a + k]? = u[k]? := fun k hk => by rw [hL, ha]; exact in_left hk
 have atV : ∀ k, k < v.length → L[m + k]? = v[k]? := fun k hk => by
  rw [hL, ← List.append_assoc, show m + k = (p ++ u).length + k by rw [List.length_append]; omega];exact in_left hk
 constructor
 ·
  intro x y hx hy;rw [List.head?_drop] at hy;have hyl := (List.getElem?_eq_some_iff.1 hy).1
  by_cases hz : st - a = 0
  ·
   rw [hz] at hx; simp at hx
  rw [List.getLast?_eq_getElem?, List.length_take, Nat.min_eq_left (by omega), List.getElem?_take_of_lt (by omega)] at hx
  rcases k1 with e | ⟨x', y', e1, e2, e3⟩
  ·
   rcases hS with f | f
   ·
    omega
   omega
  have f1 := atU (st - a - 1) (by omega);have f2 := atV (n - st - m) hyl;rw [show a + (st - a - 1) = st - 1 by omega, hx, e1] at f1;rw [show m + (n - st - m) = n - st by omega, hy, e2] at f2;injection f1 with f1
  injection f2 with f2
  rw [← f1, ← f2]; exact e3
 intro y x hy hx;rw [List.head?_drop] at hx;have hxl := (List.getElem?_eq_some_iff.1 hx).1
 by_cases hz : n - st - m = 0
 ·
  rw [hz] at hy; simp at hy
 rw [List.getLast?_eq_getElem?, List.length_take, Nat.min_eq_left (by omega), List.getElem?_take_of_lt (by omega)] at hy
 rcases k2 with e | ⟨x', y', e1, e2, e3⟩
 ·
  rcases hR with f | f
  ·
   omega
  omega
 have f1 := atU (st - a) hxl;have f2 := atV (n - st - m - 1) (by omega);rw [show a + (st - a) = st by omega, hx, e1] at f1;rw [show m + (n - st - m - 1) = n - 1 - st by omega, hy, e2] at f2;injection f1 with f1
 injection f2 with f2
 rw [← f1, ← f2]; exact e3
def snd : Code → Code
 | .seq _ y => y
 | _ => .skip
noncomputable def tail : Code := snd (snd (snd (snd (snd (snd (snd (snd (snd (Tryz.f158.body.getD .skip)))))))))
end Go.Proofs.YtibmfjacfbpfgaaGreatDoor.SortMrgC
namespace Go.Proofs.YtibmfjacfbpfgaaGreatDoor.SortMrgD
open Go.RowKit YtibmfjacfbpfgaaGreatDoorW PrintWords PrintLast PrintMore YtibmfjacfbpfgaaGreatDoor.Item Own Stab SortLaw TreeLaw NameWalk SortSwap SortIns SortMrgA SortMrgB SortMrgC
end Go.Proofs.YtibmfjacfbpfgaaGreatDoor.SortMrgD
