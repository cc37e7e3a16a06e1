/-
  DERIVED. GIVEN WITH THE SEED: THE CARDS: each row of YtibmfjacfbpfgaaGreatDoorRows.lean that lists a variable, with what it lists TIED to the program's text (the seventh form; the later family's looks); each row that meets fmt, with fmt's text TOLD by the authors' own Lean function (tested against real Go, not proved from fmt's source: count such statements apart). THE CARD IS WHAT COUNTS. Prove the row's statement (the work); the ties are given (YtibmfjacfbpfgaaGreatDoorTie.lean); close each card by the builder's one call (the guide's Derived/Test/ToyasCard.lean, 'card_holds'). Laid BY PROGRAM, IN A SANDBOX (cutbox-door.mjs). By AI agents, Wed Nov 11 2026. No macro, syntax, notation, axiom, sorry.
-/
import Derived.Test.YtibmfjacfbpfgaaGreatDoorRows
import GoSem.ClaimSeven
namespace Go.Proofs.YtibmfjacfbpfgaaGreatDoor
namespace Rows

/-- THE TIED CARD OF 'portmanteaulaw15.DiskLasts'. -/
def diskLastsCard : Claim7 := { stood := { row := diskLastsRow, standIns := [], harness := (true, "a8bdd8fcf9ff9db2b5340746c3f675cc44c658b99b14810b36d5a37557580920"), looks := false }, kinds := [], alts := [], laidByText := true, laidKinds := [.data, .pinned], laidTests := true, laidLooks := .later }
def DiskLastsCardSaid : Prop := Claim7.holds Tryz.pinned (.plain (OpenSpec.ofChange diskLastsSpec)) diskLastsCard

/-- THE TIED CARD OF 'portmanteaulaw15.DiskFails'. -/
def diskFailsCard : Claim7 := { stood := { row := diskFailsRow, standIns := [], harness := (true, "a8bdd8fcf9ff9db2b5340746c3f675cc44c658b99b14810b36d5a37557580920"), looks := false }, kinds := [], alts := [], laidByText := true, laidKinds := [.data, .pinned], laidTests := true, laidLooks := .later }
def DiskFailsCardSaid : Prop := Claim7.holds Tryz.pinned (.plain (OpenSpec.ofChange diskFailsSpec)) diskFailsCard

/-- THE TIED CARD OF 'portmanteaulaw15.DiskPlays'. -/
def diskPlaysCard : Claim7 := { stood := { row := diskPlaysRow, standIns := [], harness := (true, "a8bdd8fcf9ff9db2b5340746c3f675cc44c658b99b14810b36d5a37557580920"), looks := false }, kinds := [], alts := [], laidByText := true, laidKinds := [.data, .pinned], laidTests := true, laidLooks := .later }
def DiskPlaysCardSaid : Prop := Claim7.holds Tryz.pinned (.plain (OpenSpec.ofChange diskPlaysSpec)) diskPlaysCard

/-- THE TIED CARD OF 'portmanteaulaw16.TreeReads'. -/
def treeReadsCard : Claim7 := { stood := { row := treeReadsRow, standIns := [], harness := (true, "a8bdd8fcf9ff9db2b5340746c3f675cc44c658b99b14810b36d5a37557580920"), looks := false }, kinds := [], alts := [], laidByText := true, laidKinds := [.data, .pinned], laidTests := true, laidLooks := .later }
def TreeReadsCardSaid : Prop := Claim7.holds Tryz.pinned (.plain (OpenSpec.ofChange treeReadsSpec)) treeReadsCard

/-- THE TIED CARD OF 'portmanteaulaw16.TreeBack'. -/
def treeBackCard : Claim7 := { stood := { row := treeBackRow, standIns := [], harness := (true, "a8bdd8fcf9ff9db2b5340746c3f675cc44c658b99b14810b36d5a37557580920"), looks := false }, kinds := [], alts := [], laidByText := true, laidKinds := [.data, .pinned], laidTests := true, laidLooks := .later }
def TreeBackCardSaid : Prop := Claim7.holds Tryz.pinned (.plain (OpenSpec.ofChange treeBackSpec)) treeBackCard

/-- THE SECOND FORM's CARD OF 'portmanteaulaw15.DiskLasts'. -/
def diskLastsUptoCard : Claim7 := { stood := { row := diskLastsUptoRow, standIns := [], harness := (true, "a8bdd8fcf9ff9db2b5340746c3f675cc44c658b99b14810b36d5a37557580920"), looks := false }, kinds := [], alts := [], laidByText := true, laidKinds := [.data, .pinned], laidTests := true, laidLooks := .later }
def DiskLastsUptoCardSaid : Prop := Claim7.holds Tryz.pinned (.plain (OpenSpec.upto diskLastsSpec)) diskLastsUptoCard

/-- THE SECOND FORM's CARD OF 'portmanteaulaw15.DiskFails'. -/
def diskFailsUptoCard : Claim7 := { stood := { row := diskFailsUptoRow, standIns := [], harness := (true, "a8bdd8fcf9ff9db2b5340746c3f675cc44c658b99b14810b36d5a37557580920"), looks := false }, kinds := [], alts := [], laidByText := true, laidKinds := [.data, .pinned], laidTests := true, laidLooks := .later }
def DiskFailsUptoCardSaid : Prop := Claim7.holds Tryz.pinned (.plain (OpenSpec.upto diskFailsSpec)) diskFailsUptoCard

/-- THE SECOND FORM's CARD OF 'portmanteaulaw15.DiskPlays'. -/
def diskPlaysUptoCard : Claim7 := { stood := { row := diskPlaysUptoRow, standIns := [], harness := (true, "a8bdd8fcf9ff9db2b5340746c3f675cc44c658b99b14810b36d5a37557580920"), looks := false }, kinds := [], alts := [], laidByText := true, laidKinds := [.data, .pinned], laidTests := true, laidLooks := .later }
def DiskPlaysUptoCardSaid : Prop := Claim7.holds Tryz.pinned (.plain (OpenSpec.upto diskPlaysSpec)) diskPlaysUptoCard

/-- THE SECOND FORM's CARD OF 'portmanteaulaw16.TreeReads'. -/
def treeReadsUptoCard : Claim7 := { stood := { row := treeReadsUptoRow, standIns := [], harness := (true, "a8bdd8fcf9ff9db2b5340746c3f675cc44c658b99b14810b36d5a37557580920"), looks := false }, kinds := [], alts := [], laidByText := true, laidKinds := [.data, .pinned], laidTests := true, laidLooks := .later }
def TreeReadsUptoCardSaid : Prop := Claim7.holds Tryz.pinned (.plain (OpenSpec.upto treeReadsSpec)) treeReadsUptoCard

/-- THE SECOND FORM's CARD OF 'portmanteaulaw16.TreeBack'. -/
def treeBackUptoCard : Claim7 := { stood := { row := treeBackUptoRow, standIns := [], harness := (true, "a8bdd8fcf9ff9db2b5340746c3f675cc44c658b99b14810b36d5a37557580920"), looks := false }, kinds := [], alts := [], laidByText := true, laidKinds := [.data, .pinned], laidTests := true, laidLooks := .later }
def TreeBackUptoCardSaid : Prop := Claim7.holds Tryz.pinned (.plain (OpenSpec.upto treeBackSpec)) treeBackUptoCard
end Rows
end Go.Proofs.YtibmfjacfbpfgaaGreatDoor
