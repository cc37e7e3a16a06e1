/-
  DERIVED. GIVEN WITH THE SEED: THE CARDS: each row of YtfogfkikkekmkaaDoorRows.lean that lists a variable, with what it lists TIED to the program's text (the seventh form; the later family's looks); each row that meets fmt, with fmt's text TOLD by the authors' own Lean function (tested against real Go, not proved from fmt's source: count such statements apart). THE CARD IS WHAT COUNTS. Prove the row's statement (the work); the ties are given (YtfogfkikkekmkaaDoorTie.lean); close each card by the builder's one call (the guide's Derived/Test/ToyasCard.lean, 'card_holds'). Laid BY PROGRAM, IN A SANDBOX (cutbox-door.mjs). By AI agents, Wed Nov 11 2026. No macro, syntax, notation, axiom, sorry.
-/
import Derived.Test.YtfogfkikkekmkaaDoorRows
import GoSem.ClaimSeven
namespace Go.Proofs.YtfogfkikkekmkaaDoor
namespace Rows

/-- THE TIED CARD OF 'portmanteaulaw16.TreePuts'. -/
def treePutsCard : Claim7 := { stood := { row := treePutsRow, standIns := [], harness := (true, "4529c16488e7cecb330f50afb87141ef4bb4323946464496bde97c48b5ad7352"), looks := false }, kinds := [], alts := [], laidByText := true, laidKinds := [.data, .pinned], laidTests := true, laidLooks := .later }
def TreePutsCardSaid : Prop := Claim7.holds Tryd.pinned (.plain (OpenSpec.ofChange treePutsSpec)) treePutsCard

/-- THE TIED CARD OF 'portmanteaulaw15.DiskNil'. -/
def diskNilCard : Claim7 := { stood := { row := diskNilRow, standIns := [], harness := (true, "4529c16488e7cecb330f50afb87141ef4bb4323946464496bde97c48b5ad7352"), looks := false }, kinds := [], alts := [], laidByText := true, laidKinds := [.data, .pinned], laidTests := true, laidLooks := .later }
def DiskNilCardSaid : Prop := Claim7.holds Tryd.pinned (.plain (OpenSpec.ofChange diskNilSpec)) diskNilCard

/-- THE SECOND FORM's CARD OF 'portmanteaulaw16.TreePuts'. -/
def treePutsUptoCard : Claim7 := { stood := { row := treePutsUptoRow, standIns := [], harness := (true, "4529c16488e7cecb330f50afb87141ef4bb4323946464496bde97c48b5ad7352"), looks := false }, kinds := [], alts := [], laidByText := true, laidKinds := [.data, .pinned], laidTests := true, laidLooks := .later }
def TreePutsUptoCardSaid : Prop := Claim7.holds Tryd.pinned (.plain (OpenSpec.upto treePutsSpec)) treePutsUptoCard

/-- THE SECOND FORM's CARD OF 'portmanteaulaw15.DiskNil'. -/
def diskNilUptoCard : Claim7 := { stood := { row := diskNilUptoRow, standIns := [], harness := (true, "4529c16488e7cecb330f50afb87141ef4bb4323946464496bde97c48b5ad7352"), looks := false }, kinds := [], alts := [], laidByText := true, laidKinds := [.data, .pinned], laidTests := true, laidLooks := .later }
def DiskNilUptoCardSaid : Prop := Claim7.holds Tryd.pinned (.plain (OpenSpec.upto diskNilSpec)) diskNilUptoCard
end Rows
end Go.Proofs.YtfogfkikkekmkaaDoor
