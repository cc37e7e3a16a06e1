/- sort: symMerge, the general step: behind the search. -/
import Derived.Test.YtpjjooiamdfmfaaGreatDoorSortMrgB
import Derived.Deep.DeepCutAuto
set_option linter.unusedVariables false
set_option linter.unusedSimpArgs false
namespace Go.Proofs.YtpjjooiamdfmfaaGreatDoor.SortMrgC
open Go.RowKit Go.Proofs.YtpjjooiamdfmfaaGreatDoorW.PrintWords Go.Proofs.YtpjjooiamdfmfaaGreatDoorW.PrintLast Go.Proofs.YtpjjooiamdfmfaaGreatDoorW.PrintMore Go.Proofs.YtpjjooiamdfmfaaGreatDoor.Item Go.Proofs.YtpjjooiamdfmfaaGreatDoor.Own Go.Proofs.YtpjjooiamdfmfaaGreatDoor.Stab Go.Proofs.YtpjjooiamdfmfaaGreatDoor.SortLaw Go.Proofs.YtpjjooiamdfmfaaGreatDoor.TreeLaw Go.Proofs.YtpjjooiamdfmfaaGreatDoor.NameWalk Go.Proofs.YtpjjooiamdfmfaaGreatDoor.SortSwap Go.Proofs.YtpjjooiamdfmfaaGreatDoor.SortIns Go.Proofs.YtpjjooiamdfmfaaGreatDoor.SortMrgA Go.Proofs.YtpjjooiamdfmfaaGreatDoor.SortMrgB

def snd : Code → Code
  | .seq _ y => y
  | _ => .skip
noncomputable def tail : Code := snd (snd (snd (snd (snd (snd (snd (snd (snd (Tryz.f145.body.getD .skip)))))))))
end Go.Proofs.YtpjjooiamdfmfaaGreatDoor.SortMrgC
