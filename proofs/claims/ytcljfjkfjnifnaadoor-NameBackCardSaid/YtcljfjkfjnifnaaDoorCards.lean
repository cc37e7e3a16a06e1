/-
  DERIVED. GIVEN WITH THE SEED: THE CARDS: each row of YtcljfjkfjnifnaaDoorRows.lean that lists a variable, with what it lists TIED to the program's text (the seventh form; the later family's looks); each row that meets fmt, with fmt's text TOLD by the authors' own Lean function (tested against real Go, not proved from fmt's source: count such statements apart). THE CARD IS WHAT COUNTS. Prove the row's statement (the work); the ties are given (YtcljfjkfjnifnaaDoorTie.lean); close each card by the builder's one call (the guide's Derived/Test/ToyasCard.lean, 'card_holds'). Laid BY PROGRAM, IN A SANDBOX (cutbox-door.mjs). By AI agents, Wed Nov 11 2026. No macro, syntax, notation, axiom, sorry.
-/
import Derived.Test.YtcljfjkfjnifnaaDoorRows
import GoSem.ClaimSeven
namespace Go.Proofs.YtcljfjkfjnifnaaDoor
namespace Rows

/-- THE TIED CARD OF 'portmanteaulaw10.NameChecks'. -/
def nameChecksCard : Claim7 := { stood := { row := nameChecksRow, standIns := [], harness := (true, "cd806b03ba68552ac868ceb0dfef4e41da9e2796839eba01d100c867f5b70cd7"), looks := false }, kinds := [], alts := [], laidByText := true, laidKinds := [.data, .pinned], laidTests := true, laidLooks := .later }
def NameChecksCardSaid : Prop := Claim7.holds Tryd.pinned (.plain (OpenSpec.ofChange nameChecksSpec)) nameChecksCard

/-- THE TIED CARD OF 'portmanteaulaw10.NameOrders'. -/
def nameOrdersCard : Claim7 := { stood := { row := nameOrdersRow, standIns := [], harness := (true, "cd806b03ba68552ac868ceb0dfef4e41da9e2796839eba01d100c867f5b70cd7"), looks := false }, kinds := [], alts := [], laidByText := true, laidKinds := [.data, .pinned], laidTests := true, laidLooks := .later }
def NameOrdersCardSaid : Prop := Claim7.holds Tryd.pinned (.plain (OpenSpec.ofChange nameOrdersSpec)) nameOrdersCard

/-- THE TIED CARD OF 'portmanteaulaw10.NameParts'. -/
def namePartsCard : Claim7 := { stood := { row := namePartsRow, standIns := [], harness := (true, "cd806b03ba68552ac868ceb0dfef4e41da9e2796839eba01d100c867f5b70cd7"), looks := false }, kinds := [], alts := [], laidByText := true, laidKinds := [.data, .pinned], laidTests := true, laidLooks := .later }
def NamePartsCardSaid : Prop := Claim7.holds Tryd.pinned (.plain (OpenSpec.ofChange namePartsSpec)) namePartsCard

/-- THE TIED CARD OF 'portmanteaulaw10.NameKeeps'. -/
def nameKeepsCard : Claim7 := { stood := { row := nameKeepsRow, standIns := [], harness := (true, "cd806b03ba68552ac868ceb0dfef4e41da9e2796839eba01d100c867f5b70cd7"), looks := false }, kinds := [], alts := [], laidByText := true, laidKinds := [.data, .pinned], laidTests := true, laidLooks := .later }
def NameKeepsCardSaid : Prop := Claim7.holds Tryd.pinned (.plain (OpenSpec.ofChange nameKeepsSpec)) nameKeepsCard

/-- THE TIED CARD OF 'portmanteaulaw10.NameReads'. -/
def nameReadsCard : Claim7 := { stood := { row := nameReadsRow, standIns := [], harness := (true, "cd806b03ba68552ac868ceb0dfef4e41da9e2796839eba01d100c867f5b70cd7"), looks := false }, kinds := [], alts := [], laidByText := true, laidKinds := [.data, .widerDeep, .pinned], laidTests := true, laidLooks := .later }
def NameReadsCardSaid : Prop := Claim7.holds Tryd.pinned (.plain (OpenSpec.ofChange nameReadsSpec)) nameReadsCard

/-- THE TIED CARD OF 'portmanteaulaw10.NameBack'. -/
def nameBackCard : Claim7 := { stood := { row := nameBackRow, standIns := [], harness := (true, "cd806b03ba68552ac868ceb0dfef4e41da9e2796839eba01d100c867f5b70cd7"), looks := false }, kinds := [], alts := [], laidByText := true, laidKinds := [.data, .widerDeep, .pinned], laidTests := true, laidLooks := .later }
def NameBackCardSaid : Prop := Claim7.holds Tryd.pinned (.plain (OpenSpec.ofChange nameBackSpec)) nameBackCard

/-- THE TIED CARD OF 'portmanteaulaw16.TreePuts'. -/
def treePutsCard : Claim7 := { stood := { row := treePutsRow, standIns := [], harness := (true, "cd806b03ba68552ac868ceb0dfef4e41da9e2796839eba01d100c867f5b70cd7"), looks := false }, kinds := [], alts := [], laidByText := true, laidKinds := [.data, .pinned], laidTests := true, laidLooks := .later }
def TreePutsCardSaid : Prop := Claim7.holds Tryd.pinned (.plain (OpenSpec.ofChange treePutsSpec)) treePutsCard

/-- THE TIED CARD OF 'portmanteaulaw15.DiskNil'. -/
def diskNilCard : Claim7 := { stood := { row := diskNilRow, standIns := [], harness := (true, "cd806b03ba68552ac868ceb0dfef4e41da9e2796839eba01d100c867f5b70cd7"), looks := false }, kinds := [], alts := [], laidByText := true, laidKinds := [.data, .pinned], laidTests := true, laidLooks := .later }
def DiskNilCardSaid : Prop := Claim7.holds Tryd.pinned (.plain (OpenSpec.ofChange diskNilSpec)) diskNilCard

/-- THE SECOND FORM's CARD OF 'portmanteaulaw10.NameChecks'. -/
def nameChecksUptoCard : Claim7 := { stood := { row := nameChecksUptoRow, standIns := [], harness := (true, "cd806b03ba68552ac868ceb0dfef4e41da9e2796839eba01d100c867f5b70cd7"), looks := false }, kinds := [], alts := [], laidByText := true, laidKinds := [.data, .pinned], laidTests := true, laidLooks := .later }
def NameChecksUptoCardSaid : Prop := Claim7.holds Tryd.pinned (.plain (OpenSpec.upto nameChecksSpec)) nameChecksUptoCard

/-- THE SECOND FORM's CARD OF 'portmanteaulaw10.NameOrders'. -/
def nameOrdersUptoCard : Claim7 := { stood := { row := nameOrdersUptoRow, standIns := [], harness := (true, "cd806b03ba68552ac868ceb0dfef4e41da9e2796839eba01d100c867f5b70cd7"), looks := false }, kinds := [], alts := [], laidByText := true, laidKinds := [.data, .pinned], laidTests := true, laidLooks := .later }
def NameOrdersUptoCardSaid : Prop := Claim7.holds Tryd.pinned (.plain (OpenSpec.upto nameOrdersSpec)) nameOrdersUptoCard

/-- THE SECOND FORM's CARD OF 'portmanteaulaw10.NameParts'. -/
def namePartsUptoCard : Claim7 := { stood := { row := namePartsUptoRow, standIns := [], harness := (true, "cd806b03ba68552ac868ceb0dfef4e41da9e2796839eba01d100c867f5b70cd7"), looks := false }, kinds := [], alts := [], laidByText := true, laidKinds := [.data, .pinned], laidTests := true, laidLooks := .later }
def NamePartsUptoCardSaid : Prop := Claim7.holds Tryd.pinned (.plain (OpenSpec.upto namePartsSpec)) namePartsUptoCard

/-- THE SECOND FORM's CARD OF 'portmanteaulaw10.NameKeeps'. -/
def nameKeepsUptoCard : Claim7 := { stood := { row := nameKeepsUptoRow, standIns := [], harness := (true, "cd806b03ba68552ac868ceb0dfef4e41da9e2796839eba01d100c867f5b70cd7"), looks := false }, kinds := [], alts := [], laidByText := true, laidKinds := [.data, .pinned], laidTests := true, laidLooks := .later }
def NameKeepsUptoCardSaid : Prop := Claim7.holds Tryd.pinned (.plain (OpenSpec.upto nameKeepsSpec)) nameKeepsUptoCard

/-- THE SECOND FORM's CARD OF 'portmanteaulaw10.NameReads'. -/
def nameReadsUptoCard : Claim7 := { stood := { row := nameReadsUptoRow, standIns := [], harness := (true, "cd806b03ba68552ac868ceb0dfef4e41da9e2796839eba01d100c867f5b70cd7"), looks := false }, kinds := [], alts := [], laidByText := true, laidKinds := [.data, .widerDeep, .pinned], laidTests := true, laidLooks := .later }
def NameReadsUptoCardSaid : Prop := Claim7.holds Tryd.pinned (.plain (OpenSpec.upto nameReadsSpec)) nameReadsUptoCard

/-- THE SECOND FORM's CARD OF 'portmanteaulaw10.NameBack'. -/
def nameBackUptoCard : Claim7 := { stood := { row := nameBackUptoRow, standIns := [], harness := (true, "cd806b03ba68552ac868ceb0dfef4e41da9e2796839eba01d100c867f5b70cd7"), looks := false }, kinds := [], alts := [], laidByText := true, laidKinds := [.data, .widerDeep, .pinned], laidTests := true, laidLooks := .later }
def NameBackUptoCardSaid : Prop := Claim7.holds Tryd.pinned (.plain (OpenSpec.upto nameBackSpec)) nameBackUptoCard

/-- THE SECOND FORM's CARD OF 'portmanteaulaw16.TreePuts'. -/
def treePutsUptoCard : Claim7 := { stood := { row := treePutsUptoRow, standIns := [], harness := (true, "cd806b03ba68552ac868ceb0dfef4e41da9e2796839eba01d100c867f5b70cd7"), looks := false }, kinds := [], alts := [], laidByText := true, laidKinds := [.data, .pinned], laidTests := true, laidLooks := .later }
def TreePutsUptoCardSaid : Prop := Claim7.holds Tryd.pinned (.plain (OpenSpec.upto treePutsSpec)) treePutsUptoCard

/-- THE SECOND FORM's CARD OF 'portmanteaulaw15.DiskNil'. -/
def diskNilUptoCard : Claim7 := { stood := { row := diskNilUptoRow, standIns := [], harness := (true, "cd806b03ba68552ac868ceb0dfef4e41da9e2796839eba01d100c867f5b70cd7"), looks := false }, kinds := [], alts := [], laidByText := true, laidKinds := [.data, .pinned], laidTests := true, laidLooks := .later }
def DiskNilUptoCardSaid : Prop := Claim7.holds Tryd.pinned (.plain (OpenSpec.upto diskNilSpec)) diskNilUptoCard
end Rows
end Go.Proofs.YtcljfjkfjnifnaaDoor
