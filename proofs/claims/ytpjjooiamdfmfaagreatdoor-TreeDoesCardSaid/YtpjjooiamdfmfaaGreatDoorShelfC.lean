/-
  DERIVED: THE SHELF's CONTRACTS AT THIS DUMP, IN PLAIN WORDS (tools/lay-plain.mjs out of 'TryzCShelf.lean', which tools/lay-shelf.mjs wrote): THE SAME DECLARATIONS UNDER THE SAME NAMES: 'import', 'namespace', 'open', 'def', 'theorem' AND NOTHING ELSE: no command of the shelf's: FOR A HAND-IN. Each laying: the table of numbers ('.._ren') and one theorem, a field a fact of the dump's own or the kernel's comparison; each contract: ONE APPLICATION.
-/
import Derived.Shelf.SlGeneric
import Derived.Shelf.SlSortCmp.NoneTotal
import Derived.Ground.SlsfProg
import Derived.Test.YtpjjooiamdfmfaaGreatDoorProg
namespace Go.Proofs
open Go.Shelf
def Tryz.sortF_ren : Go.Shelf.Ren := ⟨fun | 6 => 54 | 15 => 79 | 14 => 78 | 28 => 134 | 29 => 135 | 20 => 126 | 21 => 127 | 22 => 128 | 23 => 129 | 24 => 130 | 25 => 131 | 26 => 132 | 27 => 133 | 46 => 179 | 47 => 180 | 48 => 181 | 49 => 182 | 50 => 183 | 57 => 225 | n => n, fun | 22 => 38 | 24 => 9 | 25 => 70 | 3 => 3 | 39 => 110 | 0 => 0 | 53 => 29 | 55 => 43 | 4 => 4 | 46 => 170 | 45 => 169 | 50 => 174 | 5 => 5 | 9 => 9 | 66 => 241 | 70 => 245 | 76 => 303 | 77 => 239 | n => n, fun | n => n⟩
theorem Tryz.sortF : Go.Proofs.SlLaysF.n6 Tryz.prog Tryz.sortF_ren := {
  mixed := by kernel_rfl
  f6 := ⟨Tryz.f54.name, by decide, Tryz.func54.trans (congrArg some (by kernel_rfl))⟩
  f14 := ⟨Tryz.f78.name, by decide, Tryz.func78.trans (congrArg some (by kernel_rfl))⟩
  f15 := Tryz.func79.trans (congrArg some (by kernel_rfl))
  f20 := ⟨Tryz.f126.name, by decide, Tryz.func126.trans (congrArg some (by kernel_rfl))⟩
  f21 := ⟨Tryz.f127.name, by decide, Tryz.func127.trans (congrArg some (by kernel_rfl))⟩
  f22 := ⟨Tryz.f128.name, by decide, Tryz.func128.trans (congrArg some (by kernel_rfl))⟩
  f23 := ⟨Tryz.f129.name, by decide, Tryz.func129.trans (congrArg some (by kernel_rfl))⟩
  f24 := ⟨Tryz.f130.name, by decide, Tryz.func130.trans (congrArg some (by kernel_rfl))⟩
  f25 := ⟨Tryz.f131.name, by decide, Tryz.func131.trans (congrArg some (by kernel_rfl))⟩
  f26 := ⟨Tryz.f132.name, by decide, Tryz.func132.trans (congrArg some (by kernel_rfl))⟩
  f27 := ⟨Tryz.f133.name, by decide, Tryz.func133.trans (congrArg some (by kernel_rfl))⟩
  f28 := Tryz.func134.trans (congrArg some (by kernel_rfl))
  f29 := Tryz.func135.trans (congrArg some (by kernel_rfl))
  f46 := ⟨Tryz.f179.name, by decide, Tryz.func179.trans (congrArg some (by kernel_rfl))⟩
  f47 := Tryz.func180.trans (congrArg some (by kernel_rfl))
  f48 := Tryz.func181.trans (congrArg some (by kernel_rfl))
  f49 := ⟨Tryz.f182.name, by decide, Tryz.func182.trans (congrArg some (by kernel_rfl))⟩
  f50 := ⟨Tryz.f183.name, by decide, Tryz.func183.trans (congrArg some (by kernel_rfl))⟩
  f57 := ⟨Tryz.f225.name, by decide, Tryz.func225.trans (congrArg some (by kernel_rfl))⟩
  t0 := Tryz.underlying0
  a0 := Tryz.isAgg0
  z0 := Tryz.sizeOf0
  v0 := Tryz.zeroValue0
  t3 := Tryz.underlying3
  a3 := Tryz.isAgg3
  z3 := Tryz.sizeOf3
  v3 := Tryz.zeroValue3
  t4 := Tryz.underlying4
  a4 := Tryz.isAgg4
  z4 := Tryz.sizeOf4
  v4 := Tryz.zeroValue4
  t5 := Tryz.underlying5
  a5 := Tryz.isAgg5
  z5 := Tryz.sizeOf5
  v5 := Tryz.zeroValue5
  t9 := Tryz.underlying9
  a9 := Tryz.isAgg9
  z9 := Tryz.sizeOf9
  v9 := Tryz.zeroValue9
  t22 := Tryz.underlying38
  a22 := Tryz.isAgg38
  z22 := Tryz.sizeOf38
  v22 := Tryz.zeroValue38
  a24 := Tryz.isAgg9
  z24 := Tryz.sizeOf9
  t25 := Tryz.underlying70
  a25 := Tryz.isAgg70
  z25 := Tryz.sizeOf70
  v25 := Tryz.zeroValue70
  t39 := Tryz.underlying110
  a39 := Tryz.isAgg110
  z39 := Tryz.sizeOf110
  v39 := Tryz.zeroValue110
  t45 := Tryz.underlying169
  a45 := Tryz.isAgg169
  z45 := Tryz.sizeOf169
  v45 := Tryz.zeroValue169
  t46 := Tryz.underlying170
  a46 := Tryz.isAgg170
  z46 := Tryz.sizeOf170
  v46 := Tryz.zeroValue170
  t50 := Tryz.underlying174
  a50 := Tryz.isAgg174
  z50 := Tryz.sizeOf174
  v50 := Tryz.zeroValue174
  t53 := Tryz.underlying29
  a53 := Tryz.isAgg29
  z53 := Tryz.sizeOf29
  v53 := Tryz.zeroValue29
  t55 := Tryz.underlying43
  a55 := Tryz.isAgg43
  z55 := Tryz.sizeOf43
  v55 := Tryz.zeroValue43
  t66 := Tryz.underlying241
  a66 := Tryz.isAgg241
  z66 := Tryz.sizeOf241
  v66 := Tryz.zeroValue241
  t70 := Tryz.underlying245
  a70 := Tryz.isAgg245
  z70 := Tryz.sizeOf245
  v70 := Tryz.zeroValue245
  t76 := Tryz.underlying303
  a76 := Tryz.isAgg303
  z76 := Tryz.sizeOf303
  v76 := Tryz.zeroValue303
  t77 := Tryz.underlying239
  a77 := Tryz.isAgg239
  z77 := Tryz.sizeOf239
  v77 := Tryz.zeroValue239 }
end Go.Proofs
