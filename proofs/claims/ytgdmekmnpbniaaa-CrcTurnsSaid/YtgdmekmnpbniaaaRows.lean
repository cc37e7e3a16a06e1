/-
  No cell of these rows narrows 'for every input' (looked for: loops, veiled, ifaces, maps, wideKeys, modest, calm, conditions, laid).
  DERIVED. THE GIVEN ROWS OF THIS SEAT. 5 by the template 'for every input the law returns true; each argument reads behind the call as it read before'; 0 by the template 'total and deterministic' (their statements: YtgdmekmnpbniaaaTotals.lean).
  GIVEN WITH THE SEED: the statements are not yours to turn. If you find one false, say at which input.
  Laid BY PROGRAM, IN A SANDBOX (cutbox-rows.mjs): the forced cells as the released guide's own fill.sh prints them over the translation b4185004adde724a… (all of the seat's roots in one cut). By AI agents, Wed Nov 11 2026. No macro, syntax, notation, axiom, sorry.
-/
import Derived.Test.YtgdmekmnpbniaaaChecked
import GoSem.Claim
import GoSem.ClaimJoined
import GoSem.ClaimMapViews
import Derived.JoinedTies
import Derived.KernelRfl
namespace Go.Proofs.Ytgdmekmnpbniaaa
/- THE CELL 'sum', in the pinned program and in every row, IS THE sha256 OF THE DUMP (.gsa) THAT YtgdmekmnpbniaaaProg.lean LOADS. Nothing in Lean hashes anything: it is a label: what it is worth is what the hold of that sum in a sandbox is worth. -/
noncomputable def Try.pinned : Pinned := { name := "ytgdmekmnpbniaaa", sum := "b4185004adde724af9f10141b583203bbe3caaa6143ef9d2465af2b5ddca726e", checked := Try.checked }
namespace Rows
def none {H : Type} : Left H := { results := [], args := [] }

/-- 'portmanteaulaw02.CrcSums': WHATEVER THE INPUT: true; the input reads as it did. -/
def crcSumsSpec : ChangeSpec := { name := "crcSums", fn := fun _ => fun
  | [d1, d2] => { results := [.lit (.bool true)], args := [d1, d2] }
  | _ => none }
def crcSumsRow : OpenClaim := { program := "ytgdmekmnpbniaaa", sum := "b4185004adde724af9f10141b583203bbe3caaa6143ef9d2465af2b5ddca726e", func := "portmanteau/portmanteaulaw02.CrcSums", spec := "crcSums", apart := false }
def CrcSumsSaid : Prop := crcSumsRow.holds Try.pinned (OpenSpec.ofChange crcSumsSpec)

/-- ITS FALSE NEIGHBOUR: 'it returns false'. Refute it at one input. -/
def crcSumsWrong : ChangeSpec := { name := "crcSums", fn := fun _ => fun
  | [d1, d2] => { results := [.lit (.bool false)], args := [d1, d2] }
  | _ => none }
def CrcSumsWrongFalsely : Prop := crcSumsRow.holds Try.pinned (OpenSpec.ofChange crcSumsWrong)

/-- 'portmanteaulaw02.CrcTables': WHATEVER THE INPUT: true; the input reads as it did. -/
def crcTablesSpec : ChangeSpec := { name := "crcTables", fn := fun _ => fun
  | [d1, d2, d3] => { results := [.lit (.bool true)], args := [d1, d2, d3] }
  | _ => none }
def crcTablesRow : OpenClaim := { program := "ytgdmekmnpbniaaa", sum := "b4185004adde724af9f10141b583203bbe3caaa6143ef9d2465af2b5ddca726e", func := "portmanteau/portmanteaulaw02.CrcTables", spec := "crcTables", apart := false }
def CrcTablesSaid : Prop := crcTablesRow.holds Try.pinned (OpenSpec.ofChange crcTablesSpec)

/-- ITS FALSE NEIGHBOUR: 'it returns false'. Refute it at one input. -/
def crcTablesWrong : ChangeSpec := { name := "crcTables", fn := fun _ => fun
  | [d1, d2, d3] => { results := [.lit (.bool false)], args := [d1, d2, d3] }
  | _ => none }
def CrcTablesWrongFalsely : Prop := crcTablesRow.holds Try.pinned (OpenSpec.ofChange crcTablesWrong)

/-- 'portmanteaulaw02.CrcTurns': WHATEVER THE INPUT: true; the input reads as it did. -/
def crcTurnsSpec : ChangeSpec := { name := "crcTurns", fn := fun _ => fun
  | [d1, d2, d3] => { results := [.lit (.bool true)], args := [d1, d2, d3] }
  | _ => none }
def crcTurnsRow : OpenClaim := { program := "ytgdmekmnpbniaaa", sum := "b4185004adde724af9f10141b583203bbe3caaa6143ef9d2465af2b5ddca726e", func := "portmanteau/portmanteaulaw02.CrcTurns", spec := "crcTurns", apart := false }
def CrcTurnsSaid : Prop := crcTurnsRow.holds Try.pinned (OpenSpec.ofChange crcTurnsSpec)

/-- ITS FALSE NEIGHBOUR: 'it returns false'. Refute it at one input. -/
def crcTurnsWrong : ChangeSpec := { name := "crcTurns", fn := fun _ => fun
  | [d1, d2, d3] => { results := [.lit (.bool false)], args := [d1, d2, d3] }
  | _ => none }
def CrcTurnsWrongFalsely : Prop := crcTurnsRow.holds Try.pinned (OpenSpec.ofChange crcTurnsWrong)

/-- 'portmanteaulaw02.CrcShifts': WHATEVER THE INPUT: true; the input reads as it did. -/
def crcShiftsSpec : ChangeSpec := { name := "crcShifts", fn := fun _ => fun
  | [d1, d2, d3, d4] => { results := [.lit (.bool true)], args := [d1, d2, d3, d4] }
  | _ => none }
def crcShiftsRow : OpenClaim := { program := "ytgdmekmnpbniaaa", sum := "b4185004adde724af9f10141b583203bbe3caaa6143ef9d2465af2b5ddca726e", func := "portmanteau/portmanteaulaw02.CrcShifts", spec := "crcShifts", apart := false }
def CrcShiftsSaid : Prop := crcShiftsRow.holds Try.pinned (OpenSpec.ofChange crcShiftsSpec)

/-- ITS FALSE NEIGHBOUR: 'it returns false'. Refute it at one input. -/
def crcShiftsWrong : ChangeSpec := { name := "crcShifts", fn := fun _ => fun
  | [d1, d2, d3, d4] => { results := [.lit (.bool false)], args := [d1, d2, d3, d4] }
  | _ => none }
def CrcShiftsWrongFalsely : Prop := crcShiftsRow.holds Try.pinned (OpenSpec.ofChange crcShiftsWrong)

/-- 'portmanteaulaw02.CrcJoins': WHATEVER THE INPUT: true; the input reads as it did. -/
def crcJoinsSpec : ChangeSpec := { name := "crcJoins", fn := fun _ => fun
  | [d1, d2, d3, d4] => { results := [.lit (.bool true)], args := [d1, d2, d3, d4] }
  | _ => none }
def crcJoinsRow : OpenClaim := { program := "ytgdmekmnpbniaaa", sum := "b4185004adde724af9f10141b583203bbe3caaa6143ef9d2465af2b5ddca726e", func := "portmanteau/portmanteaulaw02.CrcJoins", spec := "crcJoins", apart := false }
def CrcJoinsSaid : Prop := crcJoinsRow.holds Try.pinned (OpenSpec.ofChange crcJoinsSpec)

/-- ITS FALSE NEIGHBOUR: 'it returns false'. Refute it at one input. -/
def crcJoinsWrong : ChangeSpec := { name := "crcJoins", fn := fun _ => fun
  | [d1, d2, d3, d4] => { results := [.lit (.bool false)], args := [d1, d2, d3, d4] }
  | _ => none }
def CrcJoinsWrongFalsely : Prop := crcJoinsRow.holds Try.pinned (OpenSpec.ofChange crcJoinsWrong)

/- THE SECOND FORM. 'bulk': how many values and letters a reading holds, each counted each time it is reached (what is shared counts as often as it is met; a slice's spare places count too). A statement '..UptoSaid' is the law's where the arguments, and the package variables that the reading takes, are together of bulk at most 1048576: NARROWER than '..Said'. Prove '..Said' where nothing that the law and all that it calls make is longer than what came in: it says more and counts as full. Else prove '..UptoSaid'. A law counts once. -/
mutual
def uptoBulk {H : Type} : DataW H → Nat
  | .lit (.string bytes) => bytes.length + 1
  | .lit _ => 1
  | .nil => 1
  | .ptr d => uptoBulk d + 1
  | .slice elems spare => uptoBulkAll elems + uptoBulkAll spare + 1
  | .agg parts => uptoBulkAll parts + 1
  | .iface _ d => uptoBulk d + 1
  | .map entries => uptoBulkEntries entries + 1
  | .held _ => 1
def uptoBulkAll {H : Type} : List (DataW H) → Nat
  | [] => 0
  | d :: r => uptoBulk d + uptoBulkAll r
def uptoBulkEntries {H : Type} : List (Lit × DataW H) → Nat
  | [] => 0
  | x :: r => uptoBulkEntry x + uptoBulkEntries r
def uptoBulkEntry {H : Type} : Lit × DataW H → Nat
  | (.string bytes, d) => bytes.length + uptoBulk d + 1
  | (_, d) => uptoBulk d + 1
 end
def uptoSmall : (H : Type) → List (DataW H) → Bool := fun _ ds => decide (uptoBulkAll ds ≤ 1048576)
def OpenSpec.upto (s : _root_.Go.ChangeSpec) : _root_.Go.OpenSpec := { _root_.Go.OpenSpec.ofChange s with cond := some uptoSmall }

/-- 'portmanteaulaw02.CrcSums', WHERE WHAT IT READS IS OF BULK AT MOST 1048576: true; the input reads as it did. -/
def crcSumsUptoRow : OpenClaim := { program := "ytgdmekmnpbniaaa", sum := "b4185004adde724af9f10141b583203bbe3caaa6143ef9d2465af2b5ddca726e", func := "portmanteau/portmanteaulaw02.CrcSums", spec := "crcSums", apart := false, narrowed := true }
def CrcSumsUptoSaid : Prop := crcSumsUptoRow.holds Try.pinned (OpenSpec.upto crcSumsSpec)

/-- 'portmanteaulaw02.CrcTables', WHERE WHAT IT READS IS OF BULK AT MOST 1048576: true; the input reads as it did. -/
def crcTablesUptoRow : OpenClaim := { program := "ytgdmekmnpbniaaa", sum := "b4185004adde724af9f10141b583203bbe3caaa6143ef9d2465af2b5ddca726e", func := "portmanteau/portmanteaulaw02.CrcTables", spec := "crcTables", apart := false, narrowed := true }
def CrcTablesUptoSaid : Prop := crcTablesUptoRow.holds Try.pinned (OpenSpec.upto crcTablesSpec)

/-- 'portmanteaulaw02.CrcTurns', WHERE WHAT IT READS IS OF BULK AT MOST 1048576: true; the input reads as it did. -/
def crcTurnsUptoRow : OpenClaim := { program := "ytgdmekmnpbniaaa", sum := "b4185004adde724af9f10141b583203bbe3caaa6143ef9d2465af2b5ddca726e", func := "portmanteau/portmanteaulaw02.CrcTurns", spec := "crcTurns", apart := false, narrowed := true }
def CrcTurnsUptoSaid : Prop := crcTurnsUptoRow.holds Try.pinned (OpenSpec.upto crcTurnsSpec)

/-- 'portmanteaulaw02.CrcShifts', WHERE WHAT IT READS IS OF BULK AT MOST 1048576: true; the input reads as it did. -/
def crcShiftsUptoRow : OpenClaim := { program := "ytgdmekmnpbniaaa", sum := "b4185004adde724af9f10141b583203bbe3caaa6143ef9d2465af2b5ddca726e", func := "portmanteau/portmanteaulaw02.CrcShifts", spec := "crcShifts", apart := false, narrowed := true }
def CrcShiftsUptoSaid : Prop := crcShiftsUptoRow.holds Try.pinned (OpenSpec.upto crcShiftsSpec)

/-- 'portmanteaulaw02.CrcJoins', WHERE WHAT IT READS IS OF BULK AT MOST 1048576: true; the input reads as it did. -/
def crcJoinsUptoRow : OpenClaim := { program := "ytgdmekmnpbniaaa", sum := "b4185004adde724af9f10141b583203bbe3caaa6143ef9d2465af2b5ddca726e", func := "portmanteau/portmanteaulaw02.CrcJoins", spec := "crcJoins", apart := false, narrowed := true }
def CrcJoinsUptoSaid : Prop := crcJoinsUptoRow.holds Try.pinned (OpenSpec.upto crcJoinsSpec)

end Rows
end Go.Proofs.Ytgdmekmnpbniaaa
