/- sort: symMerge, the stable sort. -/
import Derived.Test.YtibmfjacfbpfgaaGreatDoorSortM
set_option linter.unusedVariables false
set_option linter.unusedSimpArgs false
namespace Go.Proofs.YtibmfjacfbpfgaaGreatDoor.Sort
open Go.RowKit YtibmfjacfbpfgaaGreatDoorW PrintWords PrintLast PrintMore YtibmfjacfbpfgaaGreatDoor.Item Own Stab SortLaw TreeLaw NameWalk SortSwap SortIns SortMrgA SortMrgB SortMrgC SortMrgD
theorem piece {l s : List It} {a b : Nat} (h1 : a ≤ b) (h2 : b ≤ l.length) (hs : Stb ltI (seg l a b) s) :
  (l.take a ++ (s ++ l.drop b)).length = l.length ∧ (l.take a ++ (s ++ l.drop b)).take a = l.take a ∧ seg (l.take a ++ (s ++ l.drop b)) a b = s ∧ (l.take a ++ (s ++ l.drop b)).drop b = l.drop b ∧ Sim ltI l (l.take a ++ (s ++ l.drop b)) := by
 have hl : s.length = b - a := by rw [← hs.1.1, seg_len h2]
 have hta : (l.take a).length = a := by rw [List.length_take]; omega
 refine ⟨?_, ?_, ?_, ?_, ?_⟩
 ·
  simp only [List.length_append, List.length_take, List.length_drop, hl]; omega
 ·
  rw [List.take_append_of_le_length (by omega), List.take_take, Nat.min_self]
 ·
  exact seg_mid hta.symm (by omega)
 ·
  rw [← List.append_assoc, List.drop_append, List.drop_of_length_le (by rw [List.length_append]; omega), List.nil_append, List.length_append, hta, hl, show b - (a + (b - a)) = 0 by omega, List.drop_zero]
 conv => lhs; rw [cut3 l h1]
 exact Sim.mid hs.1
structure Half (l m : List It) (k t : Nat) : Prop where
 sim : Sim ltI l m
 ahead : Ahead ltI (2 * k) (t * (2 * k)) m
 blocks : Blocks ltI k (t * (2 * k)) m
theorem half_next {l m s : List It} {k t a : Nat} (hk : 0 < k) (ha : a = t * (2 * k)) (hb : a + 2 * k ≤ m.length) (h : Half l m k t) (hs : Stb ltI (seg m a (a + 2 * k)) s) : Half l (m.take a ++ (s ++ m.drop (a + 2 * k))) k (t + 1) := by
 obtain ⟨p1, p2, p3, p4, p5⟩ := piece (by omega) hb hs;have e : (t + 1) * (2 * k) = a + 2 * k := by rw [Nat.add_mul, ha]; omega
 refine ⟨h.sim.trans p5, ?_, ?_⟩
 ·
  have ah := h.ahead;rw [← ha] at ah;have := Ahead.alike ah p2.symm;refine Ahead.snoc (by omega) (by rw [← ha]; exact this) ?_;rw [← ha, p3]; exact hs.2
 rw [e];have hbl := h.blocks;rw [← ha] at hbl;have := (hbl.next).next;rw [show a + k + k = a + 2 * k by omega] at this;exact this.alike p4.symm
end Go.Proofs.YtibmfjacfbpfgaaGreatDoor.Sort
