/- FilterTwice, walked: whatever the patterns and the items, the law answers true. -/
import Derived.Test.YtfogfkikkekmkaaFilterTree
set_option linter.unusedVariables false
set_option linter.unusedSimpArgs false
namespace Go.Proofs.Ytfogfkikkekmkaa.FilterTwice
open Go.RowKit Go.Proofs.YtfogfkikkekmkaaW.PrintWords Go.Proofs.YtfogfkikkekmkaaW.PrintLast Go.Proofs.YtfogfkikkekmkaaW.PrintMore Go.Proofs.Ytfogfkikkekmkaa.GlobScan Go.Proofs.Ytfogfkikkekmkaa.GlobTake Go.Proofs.Ytfogfkikkekmkaa.GlobMatch Go.Proofs.Ytfogfkikkekmkaa.GlobSet Go.Proofs.Ytfogfkikkekmkaa.GlobAny Go.Proofs.Ytfogfkikkekmkaa.FilterLaw Go.Proofs.Ytfogfkikkekmkaa.FilterComp Go.Proofs.Ytfogfkikkekmkaa.FilterMake Go.Proofs.Ytfogfkikkekmkaa.FilterAwake Go.Proofs.Ytfogfkikkekmkaa.Item Go.Proofs.Ytfogfkikkekmkaa.FilterTree

theorem few_spec {l : List It} (h : fewP l = true) : l.length ≤ 60 ∧ ∀ x ∈ l, x.1.size ≤ 1000 ∧ x.2.2.2.2.2.2.2.size ≤ 5000 := by
  unfold fewP at h
  rw [List.all_eq_true] at h
  have h1 : ∀ x ∈ l, l.length ≤ 60 ∧ x.1.size ≤ 1000 ∧ x.2.2.2.2.2.2.2.size ≤ 5000 := by
    intro x hx
    have h2 := h x hx
    simp [okI] at h2
    exact ⟨h2.1.1, h2.1.2, h2.2⟩
  refine ⟨?_, fun x hx => (h1 x hx).2⟩
  cases l with
  | nil => simp
  | cons x t => exact (h1 x (by simp)).1
theorem filter_again (p : It → Bool) (l : List It) : (l.filter p).filter p = l.filter p := by
  rw [List.filter_filter]; simp
set_option maxHeartbeats 8000000 in
theorem twice_any (i o : List ByteArray) (t : List It) (A : Option Addr) (c : Nat) (B : Option Addr) (d : Nat) (C : Option Addr) (z : Nat) (w : World) (hi : StrC w A i) (ho : StrC w B o) (ht : ItemC w C t) :
    Calls Try.prog 4 #[.slice A i.length c, .slice B o.length d, .slice C t.length z] w fun e w' => e = .returned (.bool true) ∧ Below w.heap.size w w' := by
  have HI := Lib.hid hi
  have HO := Lib.hid ho
  have HT := Lib.hid ht
  have htm := ht.2.1
  clear hi ho ht
  go_enter Try.func4, Try.ntmps4
  go_wp2_with fail
  refine (awake_any w).mono ?_
  rintro e w1 ⟨rfl, hb⟩
  have HB := Lib.hid hb
  have HI := Lib.hid (Kd.C_below HI.out hb)
  have HO := Lib.hid (Kd.C_below HO.out hb)
  have HT := Lib.hid (Kd.C_below HT.out hb)
  clear hb
  have HL1 := Lib.hid (light_any i A c w1 HI.out)
  have HL2 : Hid (∀ W, StrC W B o → Calls Try.prog 6 #[.slice B o.length d] W fun e w' => e = .returned (.bool (lightP o)) ∧ Below W.heap.size W w') := Lib.hid (fun W hW => light_any o B d W hW)
  have HL3 : Hid (∀ W, ItemC W C t → Calls Try.prog 9 #[.slice C t.length z] W fun e w' => e = .returned (.bool (fewP t)) ∧ Below W.heap.size W w') := Lib.hid (fun W hW => few_any t C z W hW)
  have HFS := Lib.hid (fun h => few_spec (l := t) h)
  generalize lightP i = l1 at *
  generalize lightP o = l2 at *
  generalize fewP t = l3 at *
  go_wp2_with fail
  refine HL1.out.mono ?_
  rintro e w2 ⟨rfl, hb⟩
  have HB := Lib.hid (below_next HB.out hb)
  have HI := Lib.hid (Kd.C_below HI.out hb)
  have HO := Lib.hid (Kd.C_below HO.out hb)
  have HT := Lib.hid (Kd.C_below HT.out hb)
  clear hb HL1
  cases l1 with
  | false =>
    go_wp2
    go_ret
    exact ⟨rfl, HB.out⟩
  | true =>
    go_wp2_with fail
    refine (HL2.out _ HO.out).mono ?_
    rintro e w3 ⟨rfl, hb⟩
    have HB := Lib.hid (below_next HB.out hb)
    have HI := Lib.hid (Kd.C_below HI.out hb)
    have HO := Lib.hid (Kd.C_below HO.out hb)
    have HT := Lib.hid (Kd.C_below HT.out hb)
    clear hb HL2
    cases l2 with
    | false =>
      go_wp2
      go_ret
      exact ⟨rfl, HB.out⟩
    | true =>
      go_wp2_with fail
      refine (HL3.out _ HT.out).mono ?_
      rintro e w4 ⟨rfl, hb⟩
      have HB := Lib.hid (below_next HB.out hb)
      have HI := Lib.hid (Kd.C_below HI.out hb)
      have HO := Lib.hid (Kd.C_below HO.out hb)
      have HT := Lib.hid (Kd.C_below HT.out hb)
      clear hb HL3
      cases l3 with
      | false =>
        go_wp2
        go_ret
        exact ⟨rfl, HB.out⟩
      | true =>
        have hfs := HFS.out rfl
        have hn := hfs.1
        have HSZ := Lib.hid hfs.2
        clear hfs HFS
        have HM := Lib.hid (make_any i o A c B d w4 HI.out HO.out)
        generalize makeP i o = M at *
        obtain ⟨pp, pq, er⟩ := M
        simp only at HM
        clear HI HO
        go_wp2_with fail
        refine HM.out.mono ?_
        rintro e x1 ⟨va, vb, rfl, ha, hb, hbl⟩
        have HF := Lib.hid (FAt.new ha hb)
        have hbl2 := below_next hbl (below_one x1 (.cells #[va, vb] 27))
        have HB := Lib.hid (below_next HB.out hbl2)
        have HT := Lib.hid (Kd.C_below HT.out hbl2)
        obtain ⟨A1, k1, rfl, _⟩ := ha
        obtain ⟨B1, j1, rfl, _⟩ := hb
        have c0 := HF.out.1
        have c1 := HF.out.2.1
        clear hbl hbl2 HM
        by_cases he : er = 0
        · subst he
          go_wp2_with fail
          generalize x1.alloc (.cells #[.slice A1 pp.length k1, .slice B1 pq.length j1] 27) = W1 at *
          generalize x1.heap.size = b1 at *
          refine (tree_any pp pq _ _ t C z W1 HF.out.2.2.1 HF.out.2.2.2 HT.out (by omega) (fun x hx => by have := (HSZ.out x hx).1; omega)).mono ?_
          rintro e W2 ⟨v, rfl, hr, hbl⟩
          obtain ⟨Au, cu, rfl, hcu, hC⟩ := Kd.R_reads hr
          have HU := Lib.hid hC
          have HB := Lib.hid (below_next HB.out hbl)
          have HF := Lib.hid (HF.out.below hbl)
          have hul : (t.filter (takesI pp pq)).length ≤ t.length := List.length_filter_le _ _
          have HUT := Lib.hid (show ∀ x ∈ t.filter (takesI pp pq), takesI pp pq x = true ∧ x.1.size ≤ 900000 from fun x hx => ⟨(List.mem_filter.1 hx).2, by have := (HSZ.out x (List.mem_filter.1 hx).1).1; omega⟩)
          have HUF := Lib.hid (filter_again (takesI pp pq) t)
          clear hr hbl hC c0 c1 HSZ HT
          generalize t.filter (takesI pp pq) = u at *
          go_wp2
          go_loopw [40] (fun i wr => ∃ k : Nat, k ≤ u.length ∧ i = .int .i64 k ∧ Hid (Below W2.heap.size W2 wr)) (fun i _ => u.length - (intOf i).toNat)
          case atStart => exact ⟨0, by omega, rfl, Lib.hid (Below.refl _ _)⟩
          case round =>
            obtain ⟨k, hk, rfl, HBW⟩ := hrel
            by_cases hlt : k < u.length
            · obtain ⟨ad, rfl, e0, e1, e2, e3, e4, e5, e6, e7⟩ := item_at (Kd.C_below HU.out HBW.out) hlt
              have hltI : (k : Int) < u.length := by omega
              have hx := HUT.out _ (List.getElem_mem hlt)
              generalize u[k] = x at *
              obtain ⟨pa, kd, mo, ui, gi, mt, at_, da⟩ := x
              simp only at e0 e1 e2 e3 e4 e5 e6 e7
              have hb3 := below_one wr (.cells #[.string pa, .int .i64 kd, .int .u32 mo, .int .u32 ui, .int .u32 gi, .int .i64 mt, .int .i64 at_, .string da] 40)
              have HBW3 := Lib.hid (below_next HBW.out hb3)
              have HF3 := Lib.hid (HF.out.below HBW3.out)
              have c0 := HF3.out.1
              have c1 := HF3.out.2.1
              have HC := Lib.hid (ftakes_any pp pq _ _ pa (kd == 1) _ HF3.out.2.2.1 HF3.out.2.2.2 hx.2)
              rw [show takesF pp pq pa (kd == 1) = true from hx.1] at HC
              clear hb3 hx
              go_wp2_with (go_at_call 8; refine HC.out.mono ?_; rintro e w5 ⟨rfl, hb5⟩; have HB5 := Lib.hid (below_next HBW3.out hb5); clear hb5)
              go_roundw
              case rel => exact ⟨k + 1, by omega, by go_num, HB5⟩
              case measure => simp [intOf]; omega
            · have HF := Lib.hid (HF.out.below HBW.out)
              have HU := Lib.hid (Kd.C_below HU.out HBW.out)
              have HB := Lib.hid (below_next HB.out HBW.out)
              have c0 := HF.out.1
              have c1 := HF.out.2.1
              have hulI : (u.length : Int) ≤ t.length := by omega
              go_wp2_with fail
              refine (tree_any pp pq _ _ u Au cu wr HF.out.2.2.1 HF.out.2.2.2 HU.out (by omega) (fun x hx => (HUT.out x hx).2)).mono ?_
              rintro e W5 ⟨v5, rfl, hr, hbl⟩
              rw [HUF.out] at hr
              obtain ⟨A5, c5, rfl, _, hC⟩ := Kd.R_reads hr
              have HC5 := Lib.hid hC
              have HB := Lib.hid (below_next HB.out hbl)
              have HU := Lib.hid (Kd.C_below HU.out hbl)
              clear hr hbl hC c0 c1
              have HSM := Lib.hid (same_any u u A5 c5 Au cu W5 HC5.out HU.out)
              rw [show decide (u = u) = true from decide_eq_true rfl] at HSM
              go_wp2_with (go_at_call 11; refine HSM.out.mono ?_; rintro e W6 ⟨rfl, hb6⟩; have HB6 := Lib.hid (below_next HB.out hb6); clear hb6)
              go_ret
              exact ⟨by simp, HB6.out⟩
        · have q1 : (er != 0) = true := by simp [he]
          have q2 : (er == 0) = false := beq_eq_false_iff_ne.2 he
          go_wp2
          go_ret
          exact ⟨rfl, HB.out⟩
theorem twice_row (w : World) (A : Option Addr) (c : Nat) (i : List ByteArray) (B : Option Addr) (d : Nat) (o : List ByteArray) (C : Option Addr) (z : Nat) (t : List It) (hi : StrC w A i) (ho : StrC w B o) (ht : ItemC w C t) :
    Calls Try.prog 4 #[.slice A i.length c, .slice B o.length d, .slice C t.length z] w fun e w' => e = .returned (.bool true) ∧ Below w.heap.size w w' := twice_any i o t A c B d C z w hi ho ht
end Go.Proofs.Ytfogfkikkekmkaa.FilterTwice
