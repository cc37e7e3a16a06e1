/- Paths as lists of bytes: the parts between the slashes, the order of two paths, part by part. Plain lists: no program, no condition. -/
import Derived.Lib.Split
import Derived.Lib.SplitLaws
namespace Go.Proofs.YtpjjooiamdfmfaaGreatDoor.NameLaw
open Go.Lib

/-! The order. -/
/-- Is a within r? -/
def underL (a r : List UInt8) : Bool := r.isPrefixOf a && (r.isEmpty || (a.drop r.length).isEmpty || (a.drop r.length).head? == some 47)
end Go.Proofs.YtpjjooiamdfmfaaGreatDoor.NameLaw
