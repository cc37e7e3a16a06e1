/- filter: which items are meant. -/
import Derived.Test.YtfogfkikkekmkaaFilterAwake
import Derived.Test.YtfogfkikkekmkaaItem
set_option linter.unusedVariables false
set_option linter.unusedSimpArgs false
namespace Go.Proofs.Ytfogfkikkekmkaa.FilterTree
open Go.RowKit Go.Proofs.YtfogfkikkekmkaaW.PrintWords Go.Proofs.YtfogfkikkekmkaaW.PrintLast Go.Proofs.YtfogfkikkekmkaaW.PrintMore Go.Proofs.Ytfogfkikkekmkaa.GlobScan Go.Proofs.Ytfogfkikkekmkaa.GlobTake Go.Proofs.Ytfogfkikkekmkaa.GlobMatch Go.Proofs.Ytfogfkikkekmkaa.GlobSet Go.Proofs.Ytfogfkikkekmkaa.GlobAny Go.Proofs.Ytfogfkikkekmkaa.FilterLaw Go.Proofs.Ytfogfkikkekmkaa.FilterComp Go.Proofs.Ytfogfkikkekmkaa.FilterMake Go.Proofs.Ytfogfkikkekmkaa.FilterAwake Go.Proofs.Ytfogfkikkekmkaa.Item

def takesI (pa pb : List Pat) (x : It) : Bool := takesF pa pb x.1 (x.2.1 == 1)
set_option maxHeartbeats 2000000 in
theorem tree_any (pp pq : List Pat) (va vb : Value) (l : List It) (A : Option Addr) (c : Nat) (w : World) (ha : PatV w va pp) (hb : PatV w vb pq) (hl : ItemC w A l) (hn : l.length ≤ 1000) (hs : ∀ x ∈ l, x.1.size ≤ 900000) :
    Calls Try.prog 10 #[.agg #[va, vb], .slice A l.length c] w fun e w' => ∃ v, e = .returned v ∧ itemK.R 40 w' w.heap.size (fun _ => True) v (l.filter (takesI pp pq)) ∧ Below w.heap.size w w' := by
  obtain ⟨Aa, ca, rfl, ha⟩ := ha
  obtain ⟨Ab, cb, rfl, hb⟩ := hb
  have HF0 := Lib.hid (FAt.new (va := .slice Aa pp.length ca) (vb := .slice Ab pq.length cb) ⟨_, _, rfl, ha⟩ ⟨_, _, rfl, hb⟩)
  have HB0 := Lib.hid (below_one w (.cells #[.slice Aa pp.length ca, .slice Ab pq.length cb] 27))
  have HL := Lib.hid (Kd.C_below hl HB0.out)
  have HSZ := Lib.hid hs
  have HT : Hid (∀ W va vb path dir, PatV W va pp → PatV W vb pq → path.size ≤ 900000 → Calls Try.prog 8 #[.agg #[va, vb], .string path, .bool dir] W fun e w' => e = .returned (.bool (takesF pp pq path dir)) ∧ Below W.heap.size W w') := Lib.hid (fun W va vb path dir h1 h2 h3 => ftakes_any pp pq va vb path dir W h1 h2 h3)
  clear ha hb hl hs
  obtain ⟨R, hR⟩ : ∃ R, R = l.filter (takesI pp pq) := ⟨_, rfl⟩
  have HR0 := Lib.hid (show [] ++ (l.drop 0).filter (takesI pp pq) = R from hR.symm)
  rw [← hR]
  clear hR
  go_enter Try.func10, Try.ntmps10
  go_wp2
  generalize w.alloc (.cells #[.slice Aa pp.length ca, .slice Ab pq.length cb] 27) = w0 at *
  obtain ⟨b0, hb0⟩ : ∃ b0, b0 = w.heap.size := ⟨_, rfl⟩
  rw [← hb0] at HF0 HB0 ⊢
  have HB0 : Hid (Below w.heap.size w w0) := Lib.hid (by rw [← hb0]; exact HB0.out)
  clear hb0
  go_loopw [5, 10] (fun v i wr => ∃ (k : Nat) (acc : List It), k ≤ l.length ∧ acc.length ≤ k ∧ i = .int .i64 k ∧ Hid (acc ++ (l.drop k).filter (takesI pp pq) = R) ∧ Hid (itemK.R 40 wr w0.heap.size (fun _ => True) v acc) ∧ Hid (Below w0.heap.size w0 wr)) (fun v i _ => l.length - (intOf i).toNat)
  case atStart => exact ⟨0, [], by omega, by simp, rfl, HR0, Lib.hid (Kd.R_nil _ _ _ _ _), Lib.hid (Below.refl _ _)⟩
  case round =>
    clear HR0
    obtain ⟨k, acc, hk, hacc, rfl, HR, HO, HBW⟩ := hrel
    by_cases hlt : k < l.length
    · obtain ⟨ad, rfl, e0, e1, e2, e3, e4, e5, e6, e7⟩ := item_at (Kd.C_below HL.out HBW.out) hlt
      have hltI : (k : Int) < l.length := by omega
      have hR := HR.out
      rw [List.drop_eq_getElem_cons hlt, List.filter_cons] at hR
      have hsz : (l[k]).1.size ≤ 900000 := HSZ.out _ (List.getElem_mem hlt)
      clear HR
      generalize l[k] = x at *
      obtain ⟨pa, kd, mo, ui, gi, mt, at_, da⟩ := x
      simp only at e0 e1 e2 e3 e4 e5 e6 e7 hsz
      have hb3 := below_one wr (.cells #[.string pa, .int .i64 kd, .int .u32 mo, .int .u32 ui, .int .u32 gi, .int .i64 mt, .int .i64 at_, .string da] 40)
      have HBW3 := Lib.hid (below_next HBW.out hb3)
      have HO3 := Lib.hid (Kd.R_below HO.out hb3)
      have HF3 := Lib.hid (HF0.out.below HBW3.out)
      have HI3 := Lib.hid (heap_alloc_new wr (.cells #[.string pa, .int .i64 kd, .int .u32 mo, .int .u32 ui, .int .u32 gi, .int .i64 mt, .int .i64 at_, .string da] 40))
      have c0 := HF3.out.1
      have c1 := HF3.out.2.1
      clear hb3 HBW HO
      go_wp2_with fail
      generalize wr.alloc (.cells #[.string pa, .int .i64 kd, .int .u32 mo, .int .u32 ui, .int .u32 gi, .int .i64 mt, .int .i64 at_, .string da] 40) = w3 at *
      generalize wr.heap.size = b7 at *
      clear c0 c1 e0 e1 e2 e3 e4 e5 e6 e7
      refine (HT.out _ _ _ _ _ HF3.out.2.2.1 HF3.out.2.2.2 hsz).mono ?_
      rintro e w4 ⟨rfl, hb4⟩
      have HBW4 := Lib.hid (below_next HBW3.out hb4)
      have HO4 := Lib.hid (Kd.R_below HO3.out hb4)
      have hi4 := (hb4.block b7 (Array.getElem?_eq_some_iff.1 HI3.out).1).trans HI3.out
      have i0 : w4.cell? ⟨b7, 0, none⟩ = some (.string pa) := by rw [cell_of hi4]; rfl
      have i1 : w4.cell? ⟨b7, 1, none⟩ = some (.int .i64 kd) := by rw [cell_of hi4]; rfl
      have i2 : w4.cell? ⟨b7, 2, none⟩ = some (.int .u32 mo) := by rw [cell_of hi4]; rfl
      have i3 : w4.cell? ⟨b7, 3, none⟩ = some (.int .u32 ui) := by rw [cell_of hi4]; rfl
      have i4 : w4.cell? ⟨b7, 4, none⟩ = some (.int .u32 gi) := by rw [cell_of hi4]; rfl
      have i5 : w4.cell? ⟨b7, 5, none⟩ = some (.int .i64 mt) := by rw [cell_of hi4]; rfl
      have i6 : w4.cell? ⟨b7, 6, none⟩ = some (.int .i64 at_) := by rw [cell_of hi4]; rfl
      have i7 : w4.cell? ⟨b7, 7, none⟩ = some (.string da) := by rw [cell_of hi4]; rfl

      clear hb4 hi4 HBW3 HO3 HF3 HI3
      have htk : takesI pp pq (pa, kd, mo, ui, gi, mt, at_, da) = takesF pp pq pa (kd == 1) := rfl
      rw [htk] at hR
      clear htk
      generalize takesF pp pq pa (kd == 1) = tk at *
      cases tk with
      | false =>
        have HR := Lib.hid (show acc ++ (l.drop (k + 1)).filter (takesI pp pq) = R by simpa using hR)
        clear hR
        go_wp2
        go_roundw
        case rel => exact ⟨k + 1, acc, by omega, by omega, by go_num, HR, HO4, HBW4⟩
        case measure => simp [intOf]; omega
      | true =>
        have HR := Lib.hid (show (acc ++ [(pa, kd, mo, ui, gi, mt, at_, da)]) ++ (l.drop (k + 1)).filter (takesI pp pq) = R by simpa using hR)
        clear hR
        go_wp2_with (first | ((with_reducible refine gate_builtin (b := .append) (xs := #[.tmp 22, .tmp 24]) rfl ?_); at_builtin; refine Kd.R_append itemK (w0 := w0) w0.heap.size rfl (.tmp 22) (.tmp 24) 33 40 (.agg #[.string ByteArray.empty, .int .i64 0, .int .u32 0, .int .u32 0, .int .u32 0, .int .i64 0, .int .i64 0, .string ByteArray.empty]) 72 rfl Try.underlying33 infoItem rfl (by decide) (by decide) _ acc (pa, kd, mo, ui, gi, mt, at_, da) [.string pa, .int .i64 kd, .int .u32 mo, .int .u32 ui, .int .u32 gi, .int .i64 mt, .int .i64 at_, .string da] (fun _ => True) (fun _ => False) rfl rfl ?aP (fun _ hk => hk.elim) ?aF ?aO ?aB ?aS ?aL ?_; (case aP => exact itemK_M _ _ _ (pa, kd, mo, ui, gi, mt, at_, da)); (case aB => exact HBW4.out); (case aF => exact (fun _ _ => trivial)); (case aO => exact HO4.out); (case aS => exact HBW4.out.size); (case aL => omega); intro v5 w5 ho hb5 hg5 hat5; have HO5 := Lib.hid ho; have HBW5 := Lib.hid hb5; clear ho hb5 hg5 hat5))
        go_roundw
        case rel => exact ⟨k + 1, acc ++ [(pa, kd, mo, ui, gi, mt, at_, da)], by omega, by rw [List.length_append, List.length_singleton]; omega, by go_num, HR, HO5, HBW5⟩
        case measure => simp [intOf]; omega
    · have HS := Lib.hid (show acc = R by rw [← HR.out, List.drop_of_length_le (by omega)]; simp)
      go_wp2
      go_ret
      exact ⟨_, rfl, by rw [← HS.out]; exact Kd.R_lower HO.out HB0.out.size, below_next HB0.out HBW.out⟩
end Go.Proofs.Ytfogfkikkekmkaa.FilterTree
