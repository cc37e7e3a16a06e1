/- The row's listed table of package name is the table that the walks ask. -/
import Derived.Test.YtcljfjkfjnifnaaDoorRowKit
import Derived.Test.YtcljfjkfjnifnaaDoorNameDec
import Derived.Lib.LaidTab
set_option linter.unusedVariables false
namespace Go.Proofs.YtcljfjkfjnifnaaDoor.RowTab
open Go.ChangeShapes Go.WideShapes Go.ChangeAt Go.RowKit Go.Proofs.YtcljfjkfjnifnaaDoor.NameTab Go.Proofs.YtcljfjkfjnifnaaDoor.NameCode Go.Proofs.YtcljfjkfjnifnaaDoor.NameDec
theorem tab_eq : (Rows.laid_portmanteau_name_table : DataW Unit) = Lib.tabData .i32 tabL := by kernel_rfl
theorem tab_of {laid : List (String × DataW Unit)} {W : World} (hp : (laid.all fun x => x.2.handleName?.isNone) = true) (h : ("portmanteau/name.table", Rows.laid_portmanteau_name_table) ∈ laid) (hL : laidMetH Tryd.prog laid W) : TabG W := by
  rw [MakeChecks.laidMetH_plain _ _ _ hp] at hL
  have r := Lib.laidMet.reads hL h
  rw [tab_eq] at r
  obtain ⟨g, t, cs, fuel, p, hg, hty, hvar, hd⟩ := r
  obtain rfl := Option.some.inj ((show Tryd.prog.globalNamed "portmanteau/name.table" = some 0 by kernel_rfl).symm.trans hg)
  obtain rfl := Option.some.inj ((show (Tryd.prog.globals[0]?).map (·.type) = some 84 by kernel_rfl).symm.trans hty)
  have hcs := Lib.cells_of_tab (k := .i32) (n := 128) (show Tryd.prog.underlying 84 = some (.array 128 21) by kernel_rfl) (show Tryd.prog.underlying 21 = some (.int .i32) by kernel_rfl) (by kernel_rfl) (by kernel_rfl) hd
  intro k hk
  have := World.var?_cell hg hvar k
  rw [this, ← Array.getElem?_toList, hcs, List.getElem?_map, List.getElem?_eq_getElem (by rw [tab_len]; exact hk)]
  have e := (T_all ⟨k, hk⟩).2.2
  rw [List.getD_eq_getElem?_getD, List.getElem?_eq_getElem (by rw [tab_len]; exact hk)] at e
  simp only [Option.getD_some] at e
  rw [Option.map_some, e]
end Go.Proofs.YtcljfjkfjnifnaaDoor.RowTab
