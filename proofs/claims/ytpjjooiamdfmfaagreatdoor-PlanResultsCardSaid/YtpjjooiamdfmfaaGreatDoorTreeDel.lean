/- tree: slices.DeleteFunc of items. -/
import Derived.Test.YtpjjooiamdfmfaaGreatDoorTreeFn
import Derived.Test.YtpjjooiamdfmfaaGreatDoorRaw
set_option linter.unusedVariables false
set_option linter.unusedSimpArgs false
namespace Go.Proofs.YtpjjooiamdfmfaaGreatDoor.TreeDel
open Go.RowKit Go.Proofs.YtpjjooiamdfmfaaGreatDoorW.PrintWords Go.Proofs.YtpjjooiamdfmfaaGreatDoorW.PrintLast Go.Proofs.YtpjjooiamdfmfaaGreatDoorW.PrintMore Go.Proofs.YtpjjooiamdfmfaaGreatDoor.Item Go.Proofs.YtpjjooiamdfmfaaGreatDoor.Own Go.Proofs.YtpjjooiamdfmfaaGreatDoor.Raw Go.Proofs.YtpjjooiamdfmfaaGreatDoor.TreeLaw Go.Proofs.YtpjjooiamdfmfaaGreatDoor.NameWalk Go.Proofs.YtpjjooiamdfmfaaGreatDoor.SortSwap Go.Proofs.YtpjjooiamdfmfaaGreatDoor.SortIns Go.Proofs.YtpjjooiamdfmfaaGreatDoor.TreeFn

/-- How far it has come: i are kept of the first j, what stands behind j is as it was. -/
structure Kept (p : It → Bool) (l d : List It) (i j : Nat) : Prop where
  len : d.length = l.length
  lt : i < j
  le : j ≤ l.length
  head : d.take i = (l.take j).filter (fun x => !p x)
  tail : d.drop j = l.drop j
theorem Kept.at {p : It → Bool} {l d : List It} {i j : Nat} (h : Kept p l d i j) (hj : j < l.length) : d[j]? = some l[j] := by
  have := h.tail
  rw [List.drop_eq_getElem_cons hj] at this
  have h2 : (d.drop j)[0]? = some l[j] := by rw [this]; rfl
  rw [List.getElem?_drop, Nat.add_zero] at h2
  exact h2
theorem Kept.skip {p : It → Bool} {l d : List It} {i j : Nat} (h : Kept p l d i j) (hj : j < l.length) (hp : p l[j] = true) : Kept p l d i (j + 1) where
  len := h.len
  lt := by have := h.lt; omega
  le := hj
  head := by
    rw [h.head, ← List.take_append_getElem hj, List.filter_append, List.filter_cons_of_neg (by simp [hp]), List.filter_nil, List.append_nil]
  tail := by
    rw [← List.drop_drop, h.tail, List.drop_drop]
theorem Kept.done {p : It → Bool} {l d : List It} {i : Nat} (h : Kept p l d i l.length) : d.take i = l.filter (fun x => !p x) := by
  rw [h.head, List.take_length]
theorem below_next_ {U W W1 : World} (h : Below U.heap.size U W) (k : Below W.heap.size W W1) : Below U.heap.size U W1 := h.trans (k.mono h.size)
theorem Row.R {W : World} {n g N c : Nat} {l : List It} (h : Row W n g N c l) : itemK.R 33 W n (fun _ => True) (.slice (some ⟨g, 0, none⟩) N c) l := h.2
end Go.Proofs.YtpjjooiamdfmfaaGreatDoor.TreeDel
