/- tree.Fill, as plain lists: the directories that a list's paths lack. -/
import Derived.Test.YtibmfjacfbpfgaaGreatDoorTreeT
set_option linter.unusedVariables false
set_option linter.unusedSimpArgs false
namespace Go.Proofs.YtibmfjacfbpfgaaGreatDoor.FillLaw
open YtibmfjacfbpfgaaGreatDoor.Item TreeLaw NameLaw NameWalk NameOrd NameRef SortIns NodeRes TreeNodes
theorem parent_le (p : ByteArray) : (parentT p).size ≤ p.size := by
 unfold parentT
 cases h : lastL p.data.toList p.size with
 | none => exact Nat.zero_le _
 | some j => simp only [ByteArray.size_extract]; omega
theorem parent_lt {p : ByteArray} (h : p.data.toList ≠ []) : (parentT p).size < p.size := by
 have hp : 0 < p.size := by
  rw [← len_data]
  exact List.length_pos_iff.2 h
 unfold parentT
 cases h : lastL p.data.toList p.size with
 | none => exact hp
 | some j =>
  have := lastL_lt _ _ _ h
  simp only [ByteArray.size_extract]; omega
/-- What has been added, and the list as it stands. -/
abbrev St := (ByteArray → Option Bool) × List It
def addS (d : Nd) (p : ByteArray) (s : St) : St := if (s.1 p).getD false = true then s else (fun q => if q = p then some true else s.1 q, putP s.2 (p, d))
def fillUp (r : List It) (d : Nd) : Nat → ByteArray → St → Option St
 | 0, _, s => some s
 | n + 1, p, s => if p.data.toList = [] then some s else
  match nodeP r p with
  | some x => if x.1 = 1 then fillUp r d n (parentT p) s else none
  | none => fillUp r d n (parentT p) (addS d p s)
def fillAll (r : List It) (d : Nd) : List It → St → Option St
 | [], s => some s
 | x :: l, s => (fillUp r d x.1.size (parentT x.1) s).bind (fillAll r d l)
def fillP (l : List It) (d : Nd) : List It × Bool := match fillAll (sortP l) d (sortP l) (fun _ => none, sortP l) with | some s => (s.2, true) | none => (sortP l, false)
theorem put_len (t : List It) (x : It) : (putP t x).length ≤ t.length + 1 := by
 have h : (woP t x.1).length ≤ t.length := List.length_filter_le _ _
 unfold putP
 simp only [List.length_append, List.length_cons, List.length_take, List.length_drop]
 omega
theorem put_short {t : List It} {x : It} (h : Short t) (hx : x.1.size < 4294967281) : Short (putP t x) := by
 intro y hy
 unfold putP at hy
 rcases List.mem_append.1 hy with e | e
 ·
  exact h y (List.mem_filter.1 (List.mem_of_mem_take e)).1
 ·
  rcases List.mem_cons.1 e with e | e
  ·
   rw [e]; exact hx
  ·
   exact h y (List.mem_filter.1 (List.mem_of_mem_drop e)).1
end Go.Proofs.YtibmfjacfbpfgaaGreatDoor.FillLaw
/- what tree.Fill's walk needs: a list that a store into another block leaves as it was. -/
namespace Go.Proofs.YtibmfjacfbpfgaaGreatDoor.FillKit
open Go.RowKit YtibmfjacfbpfgaaGreatDoorW.PrintWords YtibmfjacfbpfgaaGreatDoorW.PrintLast YtibmfjacfbpfgaaGreatDoorW.PrintMore YtibmfjacfbpfgaaGreatDoor.Item Own
theorem itemK_any {w w1 : World} {x : It} {cs : List Value} (h : itemK.K w x cs) : itemK.K w1 x cs := by
 obtain ⟨a0, r0, rfl, h0, a1, r1, rfl, h1, a2, r2, rfl, h2, a3, r3, rfl, h3, a4, r4, rfl, h4, a5, r5, rfl, h5, a6, a7, rfl, h6, h7⟩ := h
 exact ⟨a0, _, rfl, h0, a1, _, rfl, h1, a2, _, rfl, h2, a3, _, rfl, h3, a4, _, rfl, h4, a5, _, rfl, h5, a6, a7, rfl, h6, h7⟩
theorem add_block (ad : Addr) (n : Nat) : (ad.add n).block = ad.block := by
 unfold Addr.add
 split <;> rfl
theorem cell_keeps {W w1 : World} {row : Option Nat} (hg : W.grownBy w1 row) {a : Addr} {v : Value} (h : W.cell? a = some v) (hne : some a.block ≠ row) : w1.cell? a = some v := by
 have := hg.block a.block (World.block_lt_of_cell? W a h) hne
 simpa [World.cell?, this] using h
theorem item_grown {w w1 : World} {A : Option Addr} {l : List It} {b : Nat} (h : ItemC w A l) (hg : w.grownBy w1 (some b)) (hne : ∀ ad, A = some ad → ad.block ≠ b) : ItemC w1 A l := by
 refine ⟨h.1, h.2.1, fun hn => ?_⟩
 obtain ⟨ad, e, hc⟩ := h.2.2 hn
 refine ⟨ad, e, fun j x hx => ?_⟩
 obtain ⟨cs, hl, hK, hcell⟩ := hc j x hx
 exact ⟨cs, hl, itemK_any hK, fun i u hu => cell_keeps hg (hcell i u hu) (by intro e2; injection e2 with e2; exact hne ad e ((add_block ad _).symm.trans e2))⟩
end Go.Proofs.YtibmfjacfbpfgaaGreatDoor.FillKit
