/- a map of the call's own, keyed by texts, whatever its elements: made, asked, written. -/
import Derived.Test.YtibmfjacfbpfgaaGreatDoorItem
import Derived.Maps.Own
set_option linter.unusedVariables false
set_option linter.unusedSimpArgs false
namespace Go.Proofs.YtibmfjacfbpfgaaGreatDoor.MapS
open Go.RowKit Go.MapKept Go.ChangeMaps YtibmfjacfbpfgaaGreatDoorW PrintWords PrintLast PrintMore
section
variable {α : Type} {P : Program}
def Stp (es : Array MapEntry) (clock : Nat) : Prop := (∀ n ∈ es.toList.map (·.born), n < clock) ∧ (es.toList.map (·.born)).Nodup
def MapF (enc : α → Value) (w : World) (b : Nat) (f : ByteArray → Option α) : Prop :=
 ∃ (es : Array MapEntry) (clock : Nat) (m : List (ByteArray × α)), w.heap[b]? = some (.map es clock) ∧ es.toList.map (fun e => (e.key, e.val)) = m.map (fun p => (Value.string p.1, enc p.2)) ∧ (m.map (·.1)).Nodup ∧ (∀ k, f k = (m.find? (fun p => decide (p.1 = k))).map (·.2)) ∧ Stp es clock
variable {enc : α → Value} {w : World} {b : Nat} {f : ByteArray → Option α}
theorem MapF.lt (h : MapF enc w b f) : b < w.heap.size := by
 obtain ⟨es, clock, m, hb, _⟩ := h;exact (Array.getElem?_eq_some_iff.1 hb).1
theorem MapF.move {w1 : World} (h : MapF enc w b f) (e : w1.heap[b]? = w.heap[b]?) : MapF enc w1 b f := by
 obtain ⟨es, clock, m, hb, h1, h2, h3⟩ := h;exact ⟨es, clock, m, e.trans hb, h1, h2, h3⟩
theorem MapF.below {w1 : World} (h : MapF enc w b f) (hb : Below w.heap.size w w1) : MapF enc w1 b f := h.move (hb.block b h.lt)
theorem MapF.drewN (h : MapF enc w b f) (n : Nat) : MapF enc (w.drewN n) b f := h
theorem MapF.grown {w1 : World} {row : Option Nat} (h : MapF enc w b f) (hg : w.grownBy w1 row) (hne : some b ≠ row) : MapF enc w1 b f := h.move (hg.block b h.lt hne)
theorem MapF.congr {g : ByteArray → Option α} (h : MapF enc w b f) (e : ∀ k, f k = g k) : MapF enc w b g := by
 have : f = g := funext e;subst this;exact h
end
end Go.Proofs.YtibmfjacfbpfgaaGreatDoor.MapS
