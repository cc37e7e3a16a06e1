/- tree.Fill, as plain lists: the directories that a list's paths lack. -/
import Derived.Test.YtfnjoncklgllcaaDoorTreeTright
set_option linter.unusedVariables false
set_option linter.unusedSimpArgs false
namespace Go.Proofs.YtfnjoncklgllcaaDoor.FillLaw
open Go.Proofs.YtfnjoncklgllcaaDoor.Item Go.Proofs.YtfnjoncklgllcaaDoor.TreeLaw Go.Proofs.YtfnjoncklgllcaaDoor.NameLaw Go.Proofs.YtfnjoncklgllcaaDoor.NameWalk Go.Proofs.YtfnjoncklgllcaaDoor.NameOrd Go.Proofs.YtfnjoncklgllcaaDoor.NameRef Go.Proofs.YtfnjoncklgllcaaDoor.SortIns Go.Proofs.YtfnjoncklgllcaaDoor.NodeRes Go.Proofs.YtfnjoncklgllcaaDoor.TreeNodes

theorem parent_le (p : ByteArray) : (parentT p).size ≤ p.size := by
  unfold parentT
  cases h : lastL p.data.toList p.size with
  | none => exact Nat.zero_le _
  | some j => simp only [ByteArray.size_extract]; omega
theorem parent_lt {p : ByteArray} (h : p.data.toList ≠ []) : (parentT p).size < p.size := by
  have hp : 0 < p.size := by
    rw [← len_data]
    exact List.length_pos_iff.2 h
  unfold parentT
  cases h : lastL p.data.toList p.size with
  | none => exact hp
  | some j =>
    have := lastL_lt _ _ _ h
    simp only [ByteArray.size_extract]; omega
/-- What has been added, and the list as it stands. -/
abbrev St := (ByteArray → Option Bool) × List It
def addS (d : Nd) (p : ByteArray) (s : St) : St := if (s.1 p).getD false = true then s else (fun q => if q = p then some true else s.1 q, putP s.2 (p, d))
def fillUp (r : List It) (d : Nd) : Nat → ByteArray → St → Option St
  | 0, _, s => some s
  | n + 1, p, s => if p.data.toList = [] then some s else
    match nodeP r p with
    | some x => if x.1 = 1 then fillUp r d n (parentT p) s else none
    | none => fillUp r d n (parentT p) (addS d p s)
def fillAll (r : List It) (d : Nd) : List It → St → Option St
  | [], s => some s
  | x :: l, s => (fillUp r d x.1.size (parentT x.1) s).bind (fillAll r d l)
def fillP (l : List It) (d : Nd) : List It × Bool := match fillAll (sortP l) d (sortP l) (fun _ => none, sortP l) with | some s => (s.2, true) | none => (sortP l, false)
theorem put_len (t : List It) (x : It) : (putP t x).length ≤ t.length + 1 := by
  have h : (woP t x.1).length ≤ t.length := List.length_filter_le _ _
  unfold putP
  simp only [List.length_append, List.length_cons, List.length_take, List.length_drop]
  omega
theorem put_short {t : List It} {x : It} (h : Short t) (hx : x.1.size < 4294967281) : Short (putP t x) := by
  intro y hy
  unfold putP at hy
  rcases List.mem_append.1 hy with e | e
  · exact h y (List.mem_filter.1 (List.mem_of_mem_take e)).1
  · rcases List.mem_cons.1 e with e | e
    · rw [e]; exact hx
    · exact h y (List.mem_filter.1 (List.mem_of_mem_drop e)).1
end Go.Proofs.YtfnjoncklgllcaaDoor.FillLaw
