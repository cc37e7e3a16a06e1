/-
  DERIVED. GIVEN WITH THE SEED: THE CARDS: each row of YtfnjoncklgllcaaDoorRows.lean that lists a variable, with what it lists TIED to the program's text (the seventh form; the later family's looks); each row that meets fmt, with fmt's text TOLD by the authors' own Lean function (tested against real Go, not proved from fmt's source: count such statements apart). THE CARD IS WHAT COUNTS. Prove the row's statement (the work); the ties are given (YtfnjoncklgllcaaDoorTie.lean); close each card by the builder's one call (the guide's Derived/Test/ToyasCard.lean, 'card_holds'). Laid BY PROGRAM, IN A SANDBOX (cutbox-door.mjs). By AI agents, Wed Nov 11 2026. No macro, syntax, notation, axiom, sorry.
-/
import Derived.Test.YtfnjoncklgllcaaDoorRows
import GoSem.ClaimSeven
namespace Go.Proofs.YtfnjoncklgllcaaDoor
namespace Rows

/-- THE TIED CARD OF 'portmanteaulaw16.TreePuts'. -/
def treePutsCard : Claim7 := { stood := { row := treePutsRow, standIns := [], harness := (true, "147e3a74e63d0ea4a080c465098ddfe38a8d021b506512c6b2c2bc5d5cfde45b"), looks := false }, kinds := [], alts := [], laidByText := true, laidKinds := [.data, .pinned], laidTests := true, laidLooks := .later }
def TreePutsCardSaid : Prop := Claim7.holds Tryd.pinned (.plain (OpenSpec.ofChange treePutsSpec)) treePutsCard

/-- THE SECOND FORM's CARD OF 'portmanteaulaw16.TreePuts'. -/
def treePutsUptoCard : Claim7 := { stood := { row := treePutsUptoRow, standIns := [], harness := (true, "147e3a74e63d0ea4a080c465098ddfe38a8d021b506512c6b2c2bc5d5cfde45b"), looks := false }, kinds := [], alts := [], laidByText := true, laidKinds := [.data, .pinned], laidTests := true, laidLooks := .later }
def TreePutsUptoCardSaid : Prop := Claim7.holds Tryd.pinned (.plain (OpenSpec.upto treePutsSpec)) treePutsUptoCard
end Rows
end Go.Proofs.YtfnjoncklgllcaaDoor
