/- The document's table in the form of the printed functions. -/
import Derived.Test.YtcljfjkfjnifnaaDoorNameTab
namespace Go.Proofs.YtcljfjkfjnifnaaDoor.PNm
open Go.RowKit Go.Proofs.YtcljfjkfjnifnaaDoorW.PrintWords Go.Proofs.YtcljfjkfjnifnaaDoorW.PrintLast Go.Proofs.YtcljfjkfjnifnaaDoorW.PrintMore
def portmanteauref10_table.f : Option (List Int) := some NameTab.tabL
theorem portmanteauref10_table.calls (r : List Int) (w : World) (h : portmanteauref10_table.f = some r) :
    Calls Tryd.prog 66 #[] w fun e w' => ∃ v0_ : Value, e = .returned (v0_) ∧ Kd.R (Kd.int .i64) 3 w' w.heap.size (fun _ => True) v0_ r ∧ Below w.heap.size w w' := by
  obtain rfl := Option.some.inj h
  exact NameTab.table_any w
end Go.Proofs.YtcljfjkfjnifnaaDoor.PNm
