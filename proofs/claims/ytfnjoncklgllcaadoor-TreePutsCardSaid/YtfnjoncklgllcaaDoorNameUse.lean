/- The name layer, as the other walks call it. -/
import Derived.Test.YtfnjoncklgllcaaDoorNameCheckRef
set_option linter.unusedVariables false
set_option linter.unusedSimpArgs false
namespace Go.Proofs.YtfnjoncklgllcaaDoor.NameUse
open Go.RowKit Go.Proofs.YtfnjoncklgllcaaDoorW.PrintWords Go.Proofs.YtfnjoncklgllcaaDoorW.PrintLast Go.Proofs.YtfnjoncklgllcaaDoor.NameLaw Go.Proofs.YtfnjoncklgllcaaDoor.NameCmp Go.Proofs.YtfnjoncklgllcaaDoor.NameWalk Go.Proofs.YtfnjoncklgllcaaDoor.NameOrd Go.Proofs.YtfnjoncklgllcaaDoor.NameRef Go.Proofs.YtfnjoncklgllcaaDoor.NameAny Go.Proofs.YtfnjoncklgllcaaDoor.NameKeepLaw Go.Proofs.YtfnjoncklgllcaaDoor.NameCheckRef

theorem parent_next {w w1 : World} (HB : Hid (Below w.heap.size w w1)) (a : ByteArray) (ha : a.size ≤ 100000) :
    Calls Tryd.prog 28 #[.string a] w1 fun e w' => e = .returned (.string (parentT a)) ∧ Hid (Below w.heap.size w w') :=
  (PNm.name_Parent.calls (a.size + 1) a _ w1 (parent_f _ a ha (by omega))).mono fun _ _ h => ⟨h.1, Lib.hid (below_next HB.out h.2)⟩
theorem rparent_next {w w1 : World} (HB : Hid (Below w.heap.size w w1)) (a : ByteArray) (ha : a.size ≤ 100000) :
    Calls Tryd.prog 38 #[.string a] w1 fun e w' => e = .returned (.string (parentT a)) ∧ Hid (Below w.heap.size w w') :=
  (PNm.portmanteauref10_Parent.calls (a.size + 1) a _ w1 (rparent_f _ a ha (by omega))).mono fun _ _ h => ⟨h.1, Lib.hid (by obtain ⟨n, rfl⟩ := h.2; exact pw_below_drewN HB.out n)⟩
theorem rorder_next {w w1 : World} (HB : Hid (Below w.heap.size w w1)) (a b : ByteArray) (ha : a.size ≤ 3000) (hb : b.size ≤ 3000) :
    Calls Tryd.prog 36 #[.string a, .string b] w1 fun e w' => e = .returned (.int .i64 (orderT a b)) ∧ Hid (Below w.heap.size w w') :=
  (PNm.portmanteauref10_Order.calls 13001 a b _ w1 (rorder_f _ a b ha hb (by omega))).mono fun _ _ h => ⟨h.1, Lib.hid (below_next HB.out h.2)⟩
theorem order_next2 {w w1 : World} (HG : Hid (Glob w)) (HB : Hid (Below w.heap.size w w1)) (a b : ByteArray) (ha : a.size ≤ 3000) (hb : b.size ≤ 3000) :
    Calls Tryd.prog 19 #[.string a, .string b] w1 fun e w' => e = .returned (.int .i64 (orderT a b)) ∧ Hid (Below w.heap.size w w') :=
  (order_any a b w1 (HG.out.below HB.out) (by omega) (by omega)).mono fun _ _ h => ⟨h.1, Lib.hid (below_next HB.out h.2)⟩
theorem check_next {w w1 : World} (HG : Hid (Glob w)) (HB : Hid (Below w.heap.size w w1)) (s : ByteArray) (hs : s.size ≤ 100000) :
    Calls Tryd.prog 29 #[.string s] w1 fun e w' => e = .returned (.tuple #[.string (checkP s), .bool (checkD s), .int .i64 (checkE s)]) ∧ Hid (Below w.heap.size w w') :=
  (check_any s (any_all s (by omega)) w1 (HG.out.below HB.out) hs).mono fun _ _ h => ⟨h.1, Lib.hid (below_next HB.out h.2)⟩
theorem rcheck_next {w w1 : World} (HB : Hid (Below w.heap.size w w1)) (s : ByteArray) (hs : s.size ≤ 90000) :
    Calls Tryd.prog 35 #[.string s] w1 fun e w' => e = .returned (.tuple #[.string (checkP s), .bool (checkD s), .int .i64 (checkE s)]) ∧ Hid (Below w.heap.size w w') :=
  (PNm.portmanteauref10_Check.calls (5 * s.size + 51) s _ _ _ w1 (rcheck_f _ s hs (by omega))).mono fun _ _ h => ⟨h.1, Lib.hid (below_next HB.out h.2)⟩
end Go.Proofs.YtfnjoncklgllcaaDoor.NameUse
