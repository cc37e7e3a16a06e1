/- The name layer, as the other walks call it. -/
import Derived.Test.YtibmfjacfbpfgaaGreatDoorNameCheckRef
set_option linter.unusedVariables false
set_option linter.unusedSimpArgs false
namespace Go.Proofs.YtibmfjacfbpfgaaGreatDoor.NameUse
open Go.RowKit YtibmfjacfbpfgaaGreatDoorW.PrintWords YtibmfjacfbpfgaaGreatDoorW.PrintLast NameLaw NameCmp NameWalk NameOrd NameRef NameAny NameKeepLaw NameCheckRef
theorem parent_next {w w1 : World} (HB : Hid (Below w.heap.size w w1)) (a : ByteArray) (ha : a.size ≤ 100000) :
  Calls Tryz.prog 65 #[.string a] w1 fun e w' => e = .returned (.string (parentT a)) ∧ Hid (Below w.heap.size w w') :=
 (PNm.name_Parent.calls (a.size + 1) a _ w1 (parent_f _ a ha (by omega))).mono fun _ _ h => ⟨h.1, Lib.hid (below_next HB.out h.2)⟩
theorem rparent_next {w w1 : World} (HB : Hid (Below w.heap.size w w1)) (a : ByteArray) (ha : a.size ≤ 100000) :
  Calls Tryz.prog 69 #[.string a] w1 fun e w' => e = .returned (.string (parentT a)) ∧ Hid (Below w.heap.size w w') :=
 (PNm.portmanteauref10_Parent.calls (a.size + 1) a _ w1 (rparent_f _ a ha (by omega))).mono fun _ _ h => ⟨h.1, Lib.hid (by obtain ⟨n, rfl⟩ := h.2; exact pw_below_drewN HB.out n)⟩
theorem base_next {w w1 : World} (HB : Hid (Below w.heap.size w w1)) (a : ByteArray) (ha : a.size ≤ 100000) :
  Calls Tryz.prog 71 #[.string a] w1 fun e w' => e = .returned (.string (baseT a)) ∧ Hid (Below w.heap.size w w') :=
 (PNm.name_Base.calls (a.size + 1) a _ w1 (base_f _ a ha (by omega))).mono fun _ _ h => ⟨h.1, Lib.hid (by obtain ⟨n, rfl⟩ := h.2; exact pw_below_drewN HB.out n)⟩
theorem rorder_next {w w1 : World} (HB : Hid (Below w.heap.size w w1)) (a b : ByteArray) (ha : a.size ≤ 10000) (hb : b.size ≤ 10000) :
  Calls Tryz.prog 67 #[.string a, .string b] w1 fun e w' => e = .returned (.int .i64 (orderT a b)) ∧ Hid (Below w.heap.size w w') :=
 (PNm.portmanteauref10_Order.calls 45001 a b _ w1 (rorder_f _ a b ha hb (by omega))).mono fun _ _ h => ⟨h.1, Lib.hid (below_next HB.out h.2)⟩
theorem order_next2 {w w1 : World} (HG : Hid (Glob w)) (HB : Hid (Below w.heap.size w w1)) (a b : ByteArray) (ha : a.size ≤ 10000) (hb : b.size ≤ 10000) :
  Calls Tryz.prog 83 #[.string a, .string b] w1 fun e w' => e = .returned (.int .i64 (orderT a b)) ∧ Hid (Below w.heap.size w w') :=
 (order_any a b w1 (HG.out.below HB.out) (by omega) (by omega)).mono fun _ _ h => ⟨h.1, Lib.hid (below_next HB.out h.2)⟩
theorem check_next {w w1 : World} (HG : Hid (Glob w)) (HB : Hid (Below w.heap.size w w1)) (s : ByteArray) (hs : s.size ≤ 100000) :
  Calls Tryz.prog 55 #[.string s] w1 fun e w' => e = .returned (.tuple #[.string (checkP s), .bool (checkD s), .int .i64 (checkE s)]) ∧ Hid (Below w.heap.size w w') :=
 (check_any s (any_all s (by omega)) w1 (HG.out.below HB.out) hs).mono fun _ _ h => ⟨h.1, Lib.hid (below_next HB.out h.2)⟩
theorem rcheck_next {w w1 : World} (HB : Hid (Below w.heap.size w w1)) (s : ByteArray) (hs : s.size ≤ 90000) :
  Calls Tryz.prog 66 #[.string s] w1 fun e w' => e = .returned (.tuple #[.string (checkP s), .bool (checkD s), .int .i64 (checkE s)]) ∧ Hid (Below w.heap.size w w') :=
 (PNm.portmanteauref10_Check.calls (5 * s.size + 51) s _ _ _ w1 (rcheck_f _ s hs (by omega))).mono fun _ _ h => ⟨h.1, Lib.hid (below_next HB.out h.2)⟩
end Go.Proofs.YtibmfjacfbpfgaaGreatDoor.NameUse
