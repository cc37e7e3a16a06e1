/- tree: Find, Drop, Sort, Put. -/
import Derived.Test.YtpjjooiamdfmfaaGreatDoorTreeIns
import Derived.Test.YtpjjooiamdfmfaaGreatDoorNodeRes
import Derived.Test.YtpjjooiamdfmfaaGreatDoorSort
set_option linter.unusedVariables false
set_option linter.unusedSimpArgs false
namespace Go.Proofs.YtpjjooiamdfmfaaGreatDoor.Tree
open Go.RowKit Go.Proofs.YtpjjooiamdfmfaaGreatDoorW.PrintWords Go.Proofs.YtpjjooiamdfmfaaGreatDoorW.PrintLast Go.Proofs.YtpjjooiamdfmfaaGreatDoorW.PrintMore Go.Proofs.YtpjjooiamdfmfaaGreatDoor.Item Go.Proofs.YtpjjooiamdfmfaaGreatDoor.Own Go.Proofs.YtpjjooiamdfmfaaGreatDoor.TreeLaw Go.Proofs.YtpjjooiamdfmfaaGreatDoor.NameWalk Go.Proofs.YtpjjooiamdfmfaaGreatDoor.NameOrd Go.Proofs.YtpjjooiamdfmfaaGreatDoor.SortSwap Go.Proofs.YtpjjooiamdfmfaaGreatDoor.SortIns Go.Proofs.YtpjjooiamdfmfaaGreatDoor.Sort Go.Proofs.YtpjjooiamdfmfaaGreatDoor.TreeFn Go.Proofs.YtpjjooiamdfmfaaGreatDoor.TreeDel Go.Proofs.YtpjjooiamdfmfaaGreatDoor.TreeIns Go.Proofs.YtpjjooiamdfmfaaGreatDoor.NodeRes

set_option maxHeartbeats 4000000 in
set_option maxRecDepth 100000 in
theorem sort_any (l : List It) (A : Option Addr) (c : Nat) (W : World) (hg : Glob W) (hl : ItemC W A l) (hn : l.length ≤ 1000000) (hs : Short l) :
    Calls Tryz.prog 27 #[.slice A l.length c] W fun e w' => ∃ v1, e = .returned v1 ∧ itemK.R 33 w' W.heap.size (fun _ => True) v1 (sortP l) ∧ Below W.heap.size W w' := by
  have HCL := Lib.hid (clone_any l A c W hl hn)
  have HG := Lib.hid hg
  have HS := Lib.hid hs
  clear hl hg hs
  go_enter Tryz.func27, Tryz.ntmps27
  go_wp2_with fail
  refine HCL.out.mono ?_
  rintro e w2 ⟨v, rfl, hr, hb2⟩
  clear HCL
  rcases row_cases hr with ⟨rfl, rfl⟩ | ⟨g, c2, rfl, hrow⟩
  · have HB2 := Lib.hid hb2
    clear hr hb2
    go_wp2_with fail
    refine (ssort_none 0 w2).mono ?_
    rintro e w3 ⟨rfl, rfl⟩
    go_wp2
    go_ret
    exact ⟨_, rfl, Kd.R_nil _ _ _ _ _, HB2.out⟩
  · have HSS := Lib.hid (ssort_any W HG.out g l.length c2 l w2 hn HS.out hb2 hrow)
    have HB2 := Lib.hid hb2
    have HNG := Lib.hid hrow.base
    clear hr hb2 hrow
    go_wp2_with fail
    refine HSS.out.mono ?_
    rintro e w3 ⟨rfl, h3, h4⟩
    have HR := Lib.hid h3.2
    have HB3 := Lib.hid (below_row HB2.out h4 HNG.out)
    clear h3 h4 HSS
    go_wp2
    go_ret
    exact ⟨_, rfl, HR.out, HB3.out⟩
end Go.Proofs.YtpjjooiamdfmfaaGreatDoor.Tree
