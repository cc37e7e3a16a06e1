-- PRINTED BY print.sh 35421559b90ae4d0a3588c463048766b98c2df88dd9212a6774a882060cdf62d: not written by this session
import Derived.Test.YtgdmekmnpbniaaaProg
import Derived.Below
import Derived.Deep.Draws
import Derived.Deep.AppendLies
import Derived.Maps.AppendAt
import Derived.OwnWalk
import Derived.Laws.BytesArg
import Derived.Laws.MakeOwn
import Derived.Laws.OwnMore
import Derived.Deep.OwnRows
import Derived.Tactics
import Derived.Lib.ConvBytes
import Derived.Laws.Slices
import Derived.WalkKit
import Derived.KernelRfl
import Derived.RowKit3
import Derived.Deep.LoopGhost
import Derived.Deep.QuietTactic
import Derived.BigQuiet
import Derived.WideLaws
import Derived.Deep.DeepCutAuto
import Derived.Deep.CutBlock
import Derived.Deep.RegionHeld3
import Derived.Laws.Rows
import Derived.Lib.AppendStr
import Derived.ArgAppend
import Derived.Laws.IdiomCopy
import Derived.OrdersHeld
import Derived.Laws.BitsLemmas
import Derived.RowKit
import Derived.Test.YtgdmekmnpbniaaaWWords
import Derived.Test.YtgdmekmnpbniaaaWLast
import Derived.Test.YtgdmekmnpbniaaaWTab
import Derived.Test.YtgdmekmnpbniaaaWFour
import Derived.Test.YtgdmekmnpbniaaaWQPut
import Derived.Test.YtgdmekmnpbniaaaWApart
import Derived.Test.YtgdmekmnpbniaaaWArr
import Derived.Test.YtgdmekmnpbniaaaWZeros
import Derived.Test.YtgdmekmnpbniaaaWFoot
import Derived.Test.YtgdmekmnpbniaaaWKept
import Derived.Test.YtgdmekmnpbniaaaWShare
import Derived.Test.YtgdmekmnpbniaaaWN
import Derived.Test.YtgdmekmnpbniaaaWFootNe
import Derived.Test.YtgdmekmnpbniaaaWAt
import Derived.Test.YtgdmekmnpbniaaaWEqStruct
import Derived.Test.YtgdmekmnpbniaaaWRepsOne
import Derived.Test.YtgdmekmnpbniaaaWInv
import Derived.Test.YtgdmekmnpbniaaaWInvWords
import Derived.Test.YtgdmekmnpbniaaaWGuard
import Derived.Test.YtgdmekmnpbniaaaWNEv
import Derived.Test.YtgdmekmnpbniaaaWMore
namespace Go.Proofs.Ytgdmekmnpbniaaa.PCrcJoins
open Go.RowKit Go.Proofs.YtgdmekmnpbniaaaW.PrintWords Go.Proofs.YtgdmekmnpbniaaaW.PrintLast Go.Proofs.YtgdmekmnpbniaaaW.PrintMore
attribute [local go_sem] max2_int min2_int max_two min_two max_three min_three max_four min_four   -- for this text's walks alone
set_option linter.unusedVariables false
set_option linter.unusedSimpArgs false



def errW : Option Int → Value
  | none => .nilIface
  | some c => .iface 0 (.int .i64 c)
theorem errW_none : errW none = .nilIface := rfl
theorem errW_some (c : Int) : errW (some c) = .iface 0 (.int .i64 c) := rfl

-- the values' own types

end Go.Proofs.Ytgdmekmnpbniaaa.PCrcJoins
