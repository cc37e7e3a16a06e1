/- The walks of package name: safe, Parts, Order, Check. -/
import Derived.Test.YtpjjooiamdfmfaaGreatDoorNameCmp
import Derived.Test.YtpjjooiamdfmfaaGreatDoorShelf
import Derived.Deep.LoopGhost
import Derived.Lib.IndexAny
set_option linter.unusedVariables false
set_option linter.unusedSimpArgs false
namespace Go.Proofs.YtpjjooiamdfmfaaGreatDoor.NameWalk
open Go.RowKit Go.Proofs.YtpjjooiamdfmfaaGreatDoorW.PrintWords Go.Proofs.YtpjjooiamdfmfaaGreatDoorW.PrintLast Go.Proofs.YtpjjooiamdfmfaaGreatDoor.NameLaw Go.Proofs.YtpjjooiamdfmfaaGreatDoor.NameCmp

/-- What the library's variables hold: utf8's tables, a number. -/
structure Glob (w : World) : Prop where mk :: (tabs : Lib.Utf8Tabs 0 1 w) (max : ∃ m, w.cell? ⟨2, 0, none⟩ = some (.int .i64 m))
theorem Glob.below {w w1 : World} (h : Glob w) (hb : Below w.heap.size w w1) : Glob w1 :=
  ⟨⟨fun c hc => pw_cell_below hb (h.tabs.1 c hc), fun i hi => ⟨pw_cell_below hb (h.tabs.2 i hi).1, pw_cell_below hb (h.tabs.2 i hi).2⟩⟩, by obtain ⟨m, hm⟩ := h.max; exact ⟨m, pw_cell_below hb hm⟩⟩
theorem below_next {w w1 w2 : World} (h : Below w.heap.size w w1) (k : Below w1.heap.size w1 w2) : Below w.heap.size w w2 := h.trans (k.mono h.size)

/-! ### Parts -/
/-! ### Order -/
/-! ### safe, and what is asked of the parts -/
/-! ### Check -/
end Go.Proofs.YtpjjooiamdfmfaaGreatDoor.NameWalk
