/- FilterMore, walked: whatever the patterns and the path, the law answers true. -/
import Derived.Test.YtfogfkikkekmkaaFilterAwake
set_option linter.unusedVariables false
set_option linter.unusedSimpArgs false
namespace Go.Proofs.Ytfogfkikkekmkaa.FilterMore
open Go.RowKit Go.Proofs.YtfogfkikkekmkaaW.PrintWords Go.Proofs.YtfogfkikkekmkaaW.PrintLast Go.Proofs.YtfogfkikkekmkaaW.PrintMore Go.Proofs.Ytfogfkikkekmkaa.GlobScan Go.Proofs.Ytfogfkikkekmkaa.GlobTake Go.Proofs.Ytfogfkikkekmkaa.GlobMatch Go.Proofs.Ytfogfkikkekmkaa.GlobSet Go.Proofs.Ytfogfkikkekmkaa.GlobAny Go.Proofs.Ytfogfkikkekmkaa.FilterLaw Go.Proofs.Ytfogfkikkekmkaa.FilterComp Go.Proofs.Ytfogfkikkekmkaa.FilterMake Go.Proofs.Ytfogfkikkekmkaa.FilterAwake

theorem infoStr : (Try.prog.info? 9).map (fun i => (i.zero, i.size, i.bytes)) = some (some (.string ByteArray.empty), 1, 16) := by kernel_rfl
set_option maxHeartbeats 8000000 in
theorem more_any (i o : List ByteArray) (more path : ByteArray) (dir : Bool) (A : Option Addr) (c : Nat) (B : Option Addr) (d : Nat) (w : World) (hi : StrC w A i) (ho : StrC w B o) :
    Calls Try.prog 3 #[.slice A i.length c, .slice B o.length d, .string more, .string path, .bool dir] w fun e w' => e = .returned (.bool true) ∧ Below w.heap.size w w' := by
  have HI := Lib.hid hi
  have HO := Lib.hid ho
  clear hi ho
  go_enter Try.func3, Try.ntmps3
  go_wp2_with fail
  refine (awake_any w).mono ?_
  rintro e w1 ⟨rfl, hb⟩
  have HB := Lib.hid hb
  have HI1 := Lib.hid (Kd.C_below HI.out hb)
  have HO1 := Lib.hid (Kd.C_below HO.out hb)
  clear hb HI HO
  have HL1 := Lib.hid (light_any i A c w1 HI1.out)
  have HL2 : Hid (∀ W, StrC W B o → Calls Try.prog 6 #[.slice B o.length d] W fun e w' => e = .returned (.bool (lightP o)) ∧ Below W.heap.size W w') := Lib.hid (fun W hW => light_any o B d W hW)
  generalize lightP i = l1 at *
  generalize lightP o = l2 at *
  go_wp2_with fail
  refine HL1.out.mono ?_
  rintro e w2 ⟨rfl, hb⟩
  have HB := Lib.hid (below_next HB.out hb)
  have HI2 := Lib.hid (Kd.C_below HI1.out hb)
  have HO2 := Lib.hid (Kd.C_below HO1.out hb)
  clear hb HI1 HO1 HL1
  cases l1 with
  | false =>
    go_wp2
    go_ret
    exact ⟨rfl, HB.out⟩
  | true =>
    go_wp2_with fail
    refine (HL2.out _ HO2.out).mono ?_
    rintro e w3 ⟨rfl, hb⟩
    have HB := Lib.hid (below_next HB.out hb)
    have HI := Lib.hid (Kd.C_below HI2.out hb)
    have HO := Lib.hid (Kd.C_below HO2.out hb)
    clear hb HI2 HO2 HL2
    cases l2 with
    | false =>
      go_wp2
      go_ret
      exact ⟨rfl, HB.out⟩
    | true =>
      by_cases g4 : (100 : Int) < more.size
      · go_wp2
        go_ret
        exact ⟨rfl, HB.out⟩
      · skip
        by_cases g3 : (300 : Int) < path.size
        · go_wp2
          go_ret
          exact ⟨rfl, HB.out⟩
        · skip
          by_cases g2 : (99 : Int) < i.length
          · go_wp2
            go_ret
            exact ⟨rfl, HB.out⟩
          · skip
            by_cases g1 : (99 : Int) < o.length
            · go_wp2
              go_ret
              exact ⟨rfl, HB.out⟩
            · skip
              have HM0 := Lib.hid (make_any [] [] none 0 none 0 w3 ⟨rfl, by simp, fun h => absurd h (by simp)⟩ ⟨rfl, by simp, fun h => absurd h (by simp)⟩)
              rw [make_nil] at HM0
              have HM1 : Hid (∀ W, StrC W A i → StrC W B o → Calls Try.prog 7 #[.slice A i.length c, .slice B o.length d] W fun e w' => ∃ va vb, e = .returned (.tuple #[.agg #[va, vb], .int .i64 (makeP i o).2.2]) ∧ PatV w' va (makeP i o).1 ∧ PatV w' vb (makeP i o).2.1 ∧ Below W.heap.size W w') := Lib.hid (fun W h1 h2 => make_any i o A c B d W h1 h2)
              have HM2 : Hid (∀ W Ax kx, StrC W A i → StrC W Ax (o ++ [more]) → Calls Try.prog 7 #[.slice A i.length c, .slice Ax (o.length + 1) kx] W fun e w' => ∃ va vb, e = .returned (.tuple #[.agg #[va, vb], .int .i64 (makeP i (o ++ [more])).2.2]) ∧ PatV w' va (makeP i (o ++ [more])).1 ∧ PatV w' vb (makeP i (o ++ [more])).2.1 ∧ Below W.heap.size W w') := Lib.hid (fun W Ax kx h1 h2 => by
                have h := make_any i (o ++ [more]) A c Ax kx W h1 h2
                rw [show (o ++ [more]).length = o.length + 1 by simp] at h
                exact h)
              have HM3 : Hid (∀ W Ax kx, StrC W Ax (i ++ [more]) → StrC W B o → Calls Try.prog 7 #[.slice Ax (i.length + 1) kx, .slice B o.length d] W fun e w' => ∃ va vb, e = .returned (.tuple #[.agg #[va, vb], .int .i64 (makeP (i ++ [more]) o).2.2]) ∧ PatV w' va (makeP (i ++ [more]) o).1 ∧ PatV w' vb (makeP (i ++ [more]) o).2.1 ∧ Below W.heap.size W w') := Lib.hid (fun W Ax kx h1 h2 => by
                have h := make_any (i ++ [more]) o Ax kx B d W h1 h2
                rw [show (i ++ [more]).length = i.length + 1 by simp] at h
                exact h)
              have HLAW := Lib.hid (more_law i o more path dir (by omega) (by omega))
              have HT : Hid (∀ W va vb pa pb, PatV W va pa → PatV W vb pb → Calls Try.prog 8 #[.agg #[va, vb], .string path, .bool dir] W fun e w' => e = .returned (.bool (takesF pa pb path dir)) ∧ Below W.heap.size W w') := Lib.hid (fun W va vb pa pb h1 h2 => ftakes_any pa pb va vb path dir W h1 h2 (by omega))
              generalize makeP i o = M1 at *
              generalize makeP i (o ++ [more]) = M2 at *
              generalize makeP (i ++ [more]) o = M3 at *
              obtain ⟨pa1, pb1, e1⟩ := M1
              obtain ⟨pa2, pb2, e2⟩ := M2
              obtain ⟨pa3, pb3, e3⟩ := M3
              simp only at HM0 HM1 HM2 HM3 HLAW
              go_wp2_with fail
              refine HM0.out.mono ?_
              rintro e x1 ⟨va, vb, rfl, ha, hb, hbl⟩
              have HF0 := Lib.hid (FAt.new ha hb)
              have hbl2 := below_next hbl (below_one x1 (.cells #[va, vb] 27))
              have HB1 := Lib.hid (below_next HB.out hbl2)
              have HI1 := Lib.hid (Kd.C_below HI.out hbl2)
              have HO1 := Lib.hid (Kd.C_below HO.out hbl2)
              obtain ⟨p0, hp0⟩ : ∃ p0 : List Pat, p0 = [] := ⟨_, rfl⟩
              rw [← hp0] at HF0 ha hb
              have HP0 := Lib.hid hp0
              clear hp0
              obtain ⟨A0, k0, rfl, _⟩ := ha
              obtain ⟨B0, j0, rfl, _⟩ := hb
              clear hbl hbl2 HB HI HO HM0
              go_wp2_with fail
              generalize x1.alloc (.cells #[.slice A0 p0.length k0, .slice B0 p0.length j0] 27) = W1 at *
              generalize x1.heap.size = b0 at *
              refine (HM1.out W1 HI1.out HO1.out).mono ?_
              rintro e x2 ⟨va, vb, rfl, ha, hb, hbl⟩
              have HF1 := Lib.hid (FAt.new ha hb)
              have hbl2 := below_next hbl (below_one x2 (.cells #[va, vb] 27))
              have HB := Lib.hid (below_next HB1.out hbl2)
              have HI := Lib.hid (Kd.C_below HI1.out hbl2)
              have HO := Lib.hid (Kd.C_below HO1.out hbl2)
              have HF0 := Lib.hid (HF0.out.below hbl2)
              obtain ⟨A1, k1, rfl, _⟩ := ha
              obtain ⟨B1, j1, rfl, _⟩ := hb
              have c00 := HF0.out.1
              have c01 := HF0.out.2.1
              clear hbl hbl2 HB1 HI1 HO1 HM1
              go_wp2_with fail
              generalize x2.alloc (.cells #[.slice A1 pa1.length k1, .slice B1 pb1.length j1] 27) = W2 at *
              generalize x2.heap.size = b1 at *
              have HT0 := Lib.hid (HT.out _ _ _ _ _ HF0.out.2.2.1 HF0.out.2.2.2)
              rw [show takesF p0 p0 path dir = true by rw [HP0.out]; exact takes_nil path dir] at HT0
              clear c00 c01
              refine HT0.out.mono ?_
              rintro e W3 ⟨rfl, hbl⟩
              have HB := Lib.hid (below_next HB.out hbl)
              have HI := Lib.hid (Kd.C_below HI.out hbl)
              have HO := Lib.hid (Kd.C_below HO.out hbl)
              have HF1 := Lib.hid (HF1.out.below hbl)
              clear hbl HT0 HF0 HP0
              by_cases he1 : e1 = 0
              · subst he1
                obtain ⟨h23, hlaw⟩ := HLAW.out rfl
                subst h23
                have HLW := Lib.hid hlaw
                clear HLAW hlaw
                go_wp2_with (first | ((with_reducible refine gate_builtin (b := .append) (xs := #[.const (.slice none 0 0), .tmp 80]) rfl ?_); at_builtin; refine Kd.R_append_row Value.string ByteArray.empty (h1 := fun _ => rfl) (w0 := W3) W3.heap.size rfl (.const (.slice none 0 0)) (.tmp 80) 22 9 (.string ByteArray.empty) 16 rfl Try.underlying22 infoStr rfl (by decide) _ [] o B o.length d (fun _ => True) rfl rfl (fun _ _ => trivial) ?aO ?aR ?aB ?aS ?aL ?_; (case aO => exact Kd.R_nil _ _ _ _ _); (case aR => exact HO.out); (case aB => exact Below.refl _ _); (case aS => exact Nat.le_refl _); (case aL => simp; omega); intro v1 y1 hr hbb hq1 hq2; have HR1 := Lib.hid hr; have HY1 := Lib.hid hbb; clear hr hbb hq1 hq2) | ((with_reducible refine gate_builtin (b := .append) (xs := #[.tmp 81, .tmp 83]) rfl ?_); at_builtin; refine Kd.R_append Kd.string (w0 := W3) W3.heap.size rfl (.tmp 81) (.tmp 83) 22 9 (.string ByteArray.empty) 16 rfl Try.underlying22 infoStr rfl (by decide) (by decide) _ ([] ++ o) more [.string more] (fun _ => True) (fun _ => False) rfl rfl ?bP (fun _ hk => hk.elim) ?bF ?bO ?bB ?bS ?bL ?_; (case bP => exact rfl); (case bB => exact HY1.out); (case bF => exact (fun _ _ => trivial)); (case bO => exact HR1.out); (case bS => exact HY1.out.size); (case bL => simp; omega); intro v2 y2 hr hbb hq1 hq2; obtain ⟨Ax, kx, rfl, hcx, hC⟩ := Kd.R_reads hr; have HC := Lib.hid hC; have HY2 := Lib.hid hbb; clear hr hbb hC hq1 hq2 hcx))
                rename_i K1 h1 K0 h0
                have H1 := Lib.hid h1
                clear h1
                refine (HM2.out y2 Ax kx (Kd.C_below HI.out HY2.out) (by have h := HC.out; rw [List.nil_append] at h; exact h)).mono ?_
                rintro e x3 ⟨va, vb, rfl, ha, hb, hbl⟩
                have HF2 := Lib.hid (FAt.new ha hb)
                have hbl2 := below_next HY2.out (below_next hbl (below_one x3 (.cells #[va, vb] 27)))
                have HB := Lib.hid (below_next HB.out hbl2)
                have HI := Lib.hid (Kd.C_below HI.out hbl2)
                have HO := Lib.hid (Kd.C_below HO.out hbl2)
                have HF1 := Lib.hid (HF1.out.below hbl2)
                obtain ⟨A2, k2, rfl, _⟩ := ha
                obtain ⟨B2, j2, rfl, _⟩ := hb
                clear hbl hbl2 HM2 HC HY1 HY2 HR1
                go_wp2
                generalize x3.alloc (.cells #[.slice A2 pa2.length k2, .slice B2 pb2.length j2] 27) = W4 at *
                generalize x3.heap.size = b2 at *
                refine H1.out _ _ ?_
                clear H1
                go_wp2_with (first | ((with_reducible refine gate_builtin (b := .append) (xs := #[.const (.slice none 0 0), .tmp 89]) rfl ?_); at_builtin; refine Kd.R_append_row Value.string ByteArray.empty (h1 := fun _ => rfl) (w0 := W4) W4.heap.size rfl (.const (.slice none 0 0)) (.tmp 89) 22 9 (.string ByteArray.empty) 16 rfl Try.underlying22 infoStr rfl (by decide) _ [] i A i.length c (fun _ => True) rfl rfl (fun _ _ => trivial) ?aO ?aR ?aB ?aS ?aL ?_; (case aO => exact Kd.R_nil _ _ _ _ _); (case aR => exact HI.out); (case aB => exact Below.refl _ _); (case aS => exact Nat.le_refl _); (case aL => simp; omega); intro v1 y1 hr hbb hq1 hq2; have HR1 := Lib.hid hr; have HY1 := Lib.hid hbb; clear hr hbb hq1 hq2) | ((with_reducible refine gate_builtin (b := .append) (xs := #[.tmp 90, .tmp 92]) rfl ?_); at_builtin; refine Kd.R_append Kd.string (w0 := W4) W4.heap.size rfl (.tmp 90) (.tmp 92) 22 9 (.string ByteArray.empty) 16 rfl Try.underlying22 infoStr rfl (by decide) (by decide) _ ([] ++ i) more [.string more] (fun _ => True) (fun _ => False) rfl rfl ?bP (fun _ hk => hk.elim) ?bF ?bO ?bB ?bS ?bL ?_; (case bP => exact rfl); (case bB => exact HY1.out); (case bF => exact (fun _ _ => trivial)); (case bO => exact HR1.out); (case bS => exact HY1.out.size); (case bL => simp; omega); intro v2 y2 hr hbb hq1 hq2; obtain ⟨Ax, kx, rfl, hcx, hC⟩ := Kd.R_reads hr; have HC := Lib.hid hC; have HY2 := Lib.hid hbb; clear hr hbb hC hq1 hq2 hcx))
                rename_i K1 h1 K0 h0
                have H1 := Lib.hid h1
                clear h1
                refine (HM3.out y2 Ax kx (by have h := HC.out; rw [List.nil_append] at h; exact h) (Kd.C_below HO.out HY2.out)).mono ?_
                rintro e x4 ⟨va, vb, rfl, ha, hb, hbl⟩
                have HF3 := Lib.hid (FAt.new ha hb)
                have hbl2 := below_next HY2.out (below_next hbl (below_one x4 (.cells #[va, vb] 27)))
                have HB := Lib.hid (below_next HB.out hbl2)
                have HF1 := Lib.hid (HF1.out.below hbl2)
                have HF2 := Lib.hid (HF2.out.below hbl2)
                obtain ⟨A3, k3, rfl, _⟩ := ha
                obtain ⟨B3, j3, rfl, _⟩ := hb
                clear hbl hbl2 HM3 HC HY1 HY2 HR1 HI HO
                go_wp2
                generalize x4.alloc (.cells #[.slice A3 pa3.length k3, .slice B3 pb3.length j3] 27) = W5 at *
                generalize x4.heap.size = b3 at *
                refine H1.out _ _ ?_
                clear H1
                by_cases he2 : e2 = 0
                · subst he2
                  obtain ⟨hL1, hL2⟩ := HLW.out (by first | rfl | trivial)
                  have HTa : Hid (∀ W va vb, PatV W va pa2 → PatV W vb pb2 → Calls Try.prog 8 #[.agg #[va, vb], .string path, .bool dir] W fun e w' => e = .returned (.bool (takesF pa2 pb2 path dir)) ∧ Below W.heap.size W w') := Lib.hid (fun W va vb h1 h2 => HT.out W va vb _ _ h1 h2)
                  have HTf : Hid (∀ W va vb, PatV W va pa1 → PatV W vb pb1 → Calls Try.prog 8 #[.agg #[va, vb], .string path, .bool dir] W fun e w' => e = .returned (.bool (takesF pa1 pb1 path dir)) ∧ Below W.heap.size W w') := Lib.hid (fun W va vb h1 h2 => HT.out W va vb _ _ h1 h2)
                  have HTb : Hid (∀ W va vb, PatV W va pa3 → PatV W vb pb3 → Calls Try.prog 8 #[.agg #[va, vb], .string path, .bool dir] W fun e w' => e = .returned (.bool (takesF pa3 pb3 path dir)) ∧ Below W.heap.size W w') := Lib.hid (fun W va vb h1 h2 => HT.out W va vb _ _ h1 h2)
                  generalize takesF pa2 pb2 path dir = ta at *
                  generalize takesF pa1 pb1 path dir = tf at *
                  generalize takesF pa3 pb3 path dir = tb at *
                  clear HT HLW
                  have c20 := HF2.out.1
                  have c21 := HF2.out.2.1
                  go_wp2_with fail
                  refine (HTa.out _ _ _ HF2.out.2.2.1 HF2.out.2.2.2).mono ?_
                  rintro e W6 ⟨rfl, hbl⟩
                  have HB := Lib.hid (below_next HB.out hbl)
                  have HF1 := Lib.hid (HF1.out.below hbl)
                  have HF3 := Lib.hid (HF3.out.below hbl)
                  clear hbl c20 c21
                  have c10 := HF1.out.1
                  have c11 := HF1.out.2.1
                  cases ta with
                  | true =>
                    obtain rfl : tf = true := hL1 rfl
                    have hL2 : i.length = 0 ∨ tb = true := by simpa using hL2
                    go_wp2_with fail
                    refine (HTf.out _ _ _ HF1.out.2.2.1 HF1.out.2.2.2).mono ?_
                    rintro e W7 ⟨rfl, hbl⟩
                    have HB := Lib.hid (below_next HB.out hbl)
                    have HF1 := Lib.hid (HF1.out.below hbl)
                    have HF3 := Lib.hid (HF3.out.below hbl)
                    clear hbl c10 c11
                    have c10 := HF1.out.1
                    have c11 := HF1.out.2.1
                    by_cases hin : i.length = 0
                    · have hinI : (i.length : Int) = 0 := by omega
                      have q0 : ((i.length : Int) == 0) = true := beq_iff_eq.2 hinI
                      go_wp2
                      go_ret
                      exact ⟨by simp, HB.out⟩
                    · have hinI : ¬ (i.length : Int) = 0 := by omega
                      have q0 : ((i.length : Int) == 0) = false := beq_eq_false_iff_ne.2 hinI
                      go_wp2_with fail
                      refine (HTf.out _ _ _ HF1.out.2.2.1 HF1.out.2.2.2).mono ?_
                      rintro e W8 ⟨rfl, hbl⟩
                      have HB := Lib.hid (below_next HB.out hbl)
                      have HF3 := Lib.hid (HF3.out.below hbl)
                      clear hbl c10 c11
                      have c30 := HF3.out.1
                      have c31 := HF3.out.2.1
                      obtain rfl : tb = true := hL2.resolve_left hin
                      go_wp2_with fail
                      refine (HTb.out _ _ _ HF3.out.2.2.1 HF3.out.2.2.2).mono ?_
                      rintro e W9 ⟨rfl, hbl⟩
                      have HB := Lib.hid (below_next HB.out hbl)
                      clear hbl
                      go_wp2
                      go_ret
                      exact ⟨by simp, HB.out⟩
                  | false =>
                    by_cases hin : i.length = 0
                    · have hinI : (i.length : Int) = 0 := by omega
                      have q0 : ((i.length : Int) == 0) = true := beq_iff_eq.2 hinI
                      go_wp2
                      go_ret
                      exact ⟨by simp, HB.out⟩
                    · have hinI : ¬ (i.length : Int) = 0 := by omega
                      have q0 : ((i.length : Int) == 0) = false := beq_eq_false_iff_ne.2 hinI
                      go_wp2_with fail
                      refine (HTf.out _ _ _ HF1.out.2.2.1 HF1.out.2.2.2).mono ?_
                      rintro e W8 ⟨rfl, hbl⟩
                      have HB := Lib.hid (below_next HB.out hbl)
                      have HF3 := Lib.hid (HF3.out.below hbl)
                      clear hbl c10 c11
                      have c30 := HF3.out.1
                      have c31 := HF3.out.2.1
                      cases tf with
                      | false =>
                        go_wp2
                        go_ret
                        exact ⟨by simp, HB.out⟩
                      | true =>
                        obtain rfl : tb = true := by simpa [hin] using hL2
                        go_wp2_with fail
                        refine (HTb.out _ _ _ HF3.out.2.2.1 HF3.out.2.2.2).mono ?_
                        rintro e W9 ⟨rfl, hbl⟩
                        have HB := Lib.hid (below_next HB.out hbl)
                        clear hbl
                        go_wp2
                        go_ret
                        exact ⟨by simp, HB.out⟩
                · have q1 : (e2 != 0) = true := by simp [he2]
                  have q2 : (e2 == 0) = false := beq_eq_false_iff_ne.2 he2
                  go_wp2
                  go_ret
                  exact ⟨by simp, HB.out⟩
              · have q1 : (e1 != 0) = true := by simp [he1]
                have q2 : (e1 == 0) = false := beq_eq_false_iff_ne.2 he1
                go_wp2
                go_ret
                exact ⟨by simp, HB.out⟩
theorem more_row (w : World) (A : Option Addr) (c : Nat) (i : List ByteArray) (B : Option Addr) (d : Nat) (o : List ByteArray) (more path : ByteArray) (dir : Bool) (hi : StrC w A i) (ho : StrC w B o) (_ : more.size ≤ 140737488351232) (_ : path.size ≤ 140737488351232) :
    Calls Try.prog 3 #[.slice A i.length c, .slice B o.length d, .string more, .string path, .bool dir] w fun e w' => e = .returned (.bool true) ∧ Below w.heap.size w w' := more_any i o more path dir A c B d w hi ho
end Go.Proofs.Ytfogfkikkekmkaa.FilterMore
