/-
  DERIVED. GIVEN WITH THE SEED: THE CARDS: each row of YtpjjooiamdfmfaaGreatDoorRows.lean that lists a variable, with what it lists TIED to the program's text (the seventh form; the later family's looks); each row that meets fmt, with fmt's text TOLD by the authors' own Lean function (tested against real Go, not proved from fmt's source: count such statements apart). THE CARD IS WHAT COUNTS. Prove the row's statement (the work); the ties are given (YtpjjooiamdfmfaaGreatDoorTie.lean); close each card by the builder's one call (the guide's Derived/Test/ToyasCard.lean, 'card_holds'). Laid BY PROGRAM, IN A SANDBOX (cutbox-door.mjs). By AI agents, Wed Nov 11 2026. No macro, syntax, notation, axiom, sorry.
-/
import Derived.Test.YtpjjooiamdfmfaaGreatDoorRows
import GoSem.ClaimSeven
namespace Go.Proofs.YtpjjooiamdfmfaaGreatDoor
namespace Rows

/-- THE TIED CARD OF 'portmanteaulaw21.DenoteTrees'. -/
def denoteTreesCard : Claim7 := { stood := { row := denoteTreesRow, standIns := [], harness := (true, "59a416ae8720dba385b0712011bc13f48a36b12ceee5c1f48862f46607e907c5"), looks := false }, kinds := [], alts := [], laidByText := true, laidKinds := [.data, .pinned], laidTests := true, laidLooks := .later }
def DenoteTreesCardSaid : Prop := Claim7.holds Tryz.pinned (.plain (OpenSpec.ofChange denoteTreesSpec)) denoteTreesCard

/-- THE TIED CARD OF 'portmanteaulaw21.DenoteOver'. -/
def denoteOverCard : Claim7 := { stood := { row := denoteOverRow, standIns := [], harness := (true, "59a416ae8720dba385b0712011bc13f48a36b12ceee5c1f48862f46607e907c5"), looks := false }, kinds := [], alts := [], laidByText := true, laidKinds := [.data, .pinned], laidTests := true, laidLooks := .later }
def DenoteOverCardSaid : Prop := Claim7.holds Tryz.pinned (.plain (OpenSpec.ofChange denoteOverSpec)) denoteOverCard

/-- THE TIED CARD OF 'portmanteaulaw16.TreeDoes'. -/
def treeDoesCard : Claim7 := { stood := { row := treeDoesRow, standIns := [], harness := (true, "59a416ae8720dba385b0712011bc13f48a36b12ceee5c1f48862f46607e907c5"), looks := false }, kinds := [], alts := [], laidByText := true, laidKinds := [.data, .pinned], laidTests := true, laidLooks := .later }
def TreeDoesCardSaid : Prop := Claim7.holds Tryz.pinned (.plain (OpenSpec.ofChange treeDoesSpec)) treeDoesCard

/-- THE TIED CARD OF 'portmanteaulaw24.PlanResults'. -/
def planResultsCard : Claim7 := { stood := { row := planResultsRow, standIns := [], harness := (true, "59a416ae8720dba385b0712011bc13f48a36b12ceee5c1f48862f46607e907c5"), looks := false }, kinds := [], alts := [], laidByText := true, laidKinds := [.data, .widerDeep, .pinned], laidTests := true, laidLooks := .later }
def PlanResultsCardSaid : Prop := Claim7.holds Tryz.pinned (.plain (OpenSpec.ofChange planResultsSpec)) planResultsCard

/-- THE SECOND FORM's CARD OF 'portmanteaulaw21.DenoteTrees'. -/
def denoteTreesUptoCard : Claim7 := { stood := { row := denoteTreesUptoRow, standIns := [], harness := (true, "59a416ae8720dba385b0712011bc13f48a36b12ceee5c1f48862f46607e907c5"), looks := false }, kinds := [], alts := [], laidByText := true, laidKinds := [.data, .pinned], laidTests := true, laidLooks := .later }
def DenoteTreesUptoCardSaid : Prop := Claim7.holds Tryz.pinned (.plain (OpenSpec.upto denoteTreesSpec)) denoteTreesUptoCard

/-- THE SECOND FORM's CARD OF 'portmanteaulaw21.DenoteOver'. -/
def denoteOverUptoCard : Claim7 := { stood := { row := denoteOverUptoRow, standIns := [], harness := (true, "59a416ae8720dba385b0712011bc13f48a36b12ceee5c1f48862f46607e907c5"), looks := false }, kinds := [], alts := [], laidByText := true, laidKinds := [.data, .pinned], laidTests := true, laidLooks := .later }
def DenoteOverUptoCardSaid : Prop := Claim7.holds Tryz.pinned (.plain (OpenSpec.upto denoteOverSpec)) denoteOverUptoCard

/-- THE SECOND FORM's CARD OF 'portmanteaulaw16.TreeDoes'. -/
def treeDoesUptoCard : Claim7 := { stood := { row := treeDoesUptoRow, standIns := [], harness := (true, "59a416ae8720dba385b0712011bc13f48a36b12ceee5c1f48862f46607e907c5"), looks := false }, kinds := [], alts := [], laidByText := true, laidKinds := [.data, .pinned], laidTests := true, laidLooks := .later }
def TreeDoesUptoCardSaid : Prop := Claim7.holds Tryz.pinned (.plain (OpenSpec.upto treeDoesSpec)) treeDoesUptoCard

/-- THE SECOND FORM's CARD OF 'portmanteaulaw24.PlanResults'. -/
def planResultsUptoCard : Claim7 := { stood := { row := planResultsUptoRow, standIns := [], harness := (true, "59a416ae8720dba385b0712011bc13f48a36b12ceee5c1f48862f46607e907c5"), looks := false }, kinds := [], alts := [], laidByText := true, laidKinds := [.data, .widerDeep, .pinned], laidTests := true, laidLooks := .later }
def PlanResultsUptoCardSaid : Prop := Claim7.holds Tryz.pinned (.plain (OpenSpec.upto planResultsSpec)) planResultsUptoCard
end Rows
end Go.Proofs.YtpjjooiamdfmfaaGreatDoor
