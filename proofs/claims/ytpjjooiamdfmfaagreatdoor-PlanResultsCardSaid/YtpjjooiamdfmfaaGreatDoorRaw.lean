/- rows of items of one's own, cell by cell: what they hold as a list of cells; stores, copies, clears into them; append of make. -/
import Derived.Test.YtpjjooiamdfmfaaGreatDoorOwn
import Derived.Laws.CopyRow
import Derived.Laws.IdiomCopy
set_option linter.unusedVariables false
set_option linter.unusedSimpArgs false
namespace Go.Proofs.YtpjjooiamdfmfaaGreatDoor.Raw
open Go.RowKit Go.Proofs.YtpjjooiamdfmfaaGreatDoorW.PrintWords Go.Proofs.YtpjjooiamdfmfaaGreatDoorW.PrintLast Go.Proofs.YtpjjooiamdfmfaaGreatDoorW.PrintMore Go.Proofs.YtpjjooiamdfmfaaGreatDoor.Item Go.Proofs.YtpjjooiamdfmfaaGreatDoor.Own

def flat (l : List It) : List Value := l.flatMap cellsI
theorem flat_cons (x : It) (l : List It) : flat (x :: l) = cellsI x ++ flat l := rfl
theorem flat_uniq : ∀ (l : List It) (inner : List Value), inner.length = l.length * 8 → (∀ q p, l[q]? = some p → (inner.drop (q * 8)).take 8 = cellsI p) → inner = flat l
  | [], inner, h, _ => List.eq_nil_of_length_eq_zero (by simpa using h)
  | x :: l, inner, h, hq => by
    have h0 := hq 0 x rfl
    rw [Nat.zero_mul, List.drop_zero] at h0
    have ih := flat_uniq l (inner.drop 8) (by rw [List.length_drop, h, List.length_cons]; omega) (fun q p hp => by
      have := hq (q + 1) p (by simpa using hp)
      rw [List.drop_drop, show 8 + q * 8 = (q + 1) * 8 by omega]
      exact this)
    rw [flat_cons, ← ih, ← h0, List.take_append_drop]
/-- The block of a row: its cells, all there is room for. -/
structure RawAt (W : World) (n g c : Nat) (cur : List Value) : Prop where
  blk : W.heap[g]? = some (.cells cur.toArray 33 (0, 0))
  size : cur.length = c * 8
  cap : c ≤ maxLen
  base : n ≤ g
theorem Row.raw {W : World} {n g N c : Nat} {l : List It} (h : Row W n g N c l) : ∃ cur, RawAt W n g c cur ∧ N ≤ c ∧ cur.take (N * 8) = flat l := by
  obtain ⟨hN, hok, inner, ⟨hil, hown⟩, hr⟩ := h
  rcases hown with ⟨e, _⟩ | ⟨g', cap, cur, e, hb, hh, h1, h2, h3, h4⟩
  · cases e
  · injection e with e1 e2 e3
    injection e1 with e1
    injection e1 with e1
    subst e1 e3
    have hin : inner = flat l := flat_uniq l inner hil (fun q p hq => itemK_K (itemK.K_of_M (hr.2 q p hq)))
    subst hN
    refine ⟨cur.toList, ⟨by simpa using hh, by rw [Array.length_toList]; exact h3, h2, hb⟩, h1, ?_⟩
    rw [← hin]; exact h4
theorem RawAt.cell {W : World} {n g c : Nat} {cur : List Value} (h : RawAt W n g c cur) (j : Nat) : W.cell? ⟨g, j, none⟩ = cur[j]? := by
  rw [cell_of h.blk]; simp
/-- cells are laid into the row, from cell o on. -/
def laid (cur vs : List Value) (o : Nat) : List Value := cur.take o ++ vs ++ cur.drop (o + vs.length)
end Go.Proofs.YtpjjooiamdfmfaaGreatDoor.Raw
