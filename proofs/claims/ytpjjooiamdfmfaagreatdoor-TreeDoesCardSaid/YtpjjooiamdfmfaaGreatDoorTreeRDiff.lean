/- the document's Differ. -/
import Derived.Test.YtpjjooiamdfmfaaGreatDoorTreeRef2
set_option linter.unusedVariables false
set_option linter.unusedSimpArgs false
namespace Go.Proofs.YtpjjooiamdfmfaaGreatDoor.TreeRDiff
open Go.RowKit Go.Proofs.YtpjjooiamdfmfaaGreatDoorW.PrintWords Go.Proofs.YtpjjooiamdfmfaaGreatDoorW.PrintLast Go.Proofs.YtpjjooiamdfmfaaGreatDoorW.PrintMore Go.Proofs.YtpjjooiamdfmfaaGreatDoor.Item Go.Proofs.YtpjjooiamdfmfaaGreatDoor.Own Go.Proofs.YtpjjooiamdfmfaaGreatDoor.TreeLaw Go.Proofs.YtpjjooiamdfmfaaGreatDoor.NameLaw Go.Proofs.YtpjjooiamdfmfaaGreatDoor.NameWalk Go.Proofs.YtpjjooiamdfmfaaGreatDoor.NameOrd Go.Proofs.YtpjjooiamdfmfaaGreatDoor.NameRef Go.Proofs.YtpjjooiamdfmfaaGreatDoor.NameUse Go.Proofs.YtpjjooiamdfmfaaGreatDoor.SortIns Go.Proofs.YtpjjooiamdfmfaaGreatDoor.NodeRes Go.Proofs.YtpjjooiamdfmfaaGreatDoor.TreeRef Go.Proofs.YtpjjooiamdfmfaaGreatDoor.TreeNodes Go.Proofs.YtpjjooiamdfmfaaGreatDoor.RSort Go.Proofs.YtpjjooiamdfmfaaGreatDoor.DiffLaw Go.Proofs.YtpjjooiamdfmfaaGreatDoor.TreeRef2

theorem str_at {w : World} {A : Option Addr} {l : List ByteArray} (h : Kd.string.C w A l.length l) {k : Nat} (hk : k < l.length) : ∃ ad, A = some ad ∧ w.cell? (ad.add k) = some (.string l[k]) := by
  obtain ⟨ad, e, hc⟩ := h.2.2 (by omega)
  obtain ⟨cs, hl, hK, hcell⟩ := hc k _ (List.getElem?_eq_getElem hk)
  have : cs = [.string l[k]] := hK
  subst this
  have := hcell 0 _ rfl
  exact ⟨ad, e, by simpa [Kd.string, Kd.scalar] using this⟩
theorem infoStr : (Tryz.prog.info? 9).map (fun i => (i.zero, i.size, i.bytes)) = some (some (.string ByteArray.empty), 1, 16) := by kernel_rfl
theorem R_C {w : World} {base : Nat} {Av : Option Addr} {cv : Nat} {l : List ByteArray} (h : Kd.string.R 9 w base (fun _ => True) (.slice Av l.length cv) l) : Kd.string.C w Av l.length l := by
  obtain ⟨A2, c2, e, _, hC⟩ := Kd.R_reads h
  injection e with e1 e2 e3
  rw [e1]
  exact hC
theorem d_skip1 {a b : List It} {o : List ByteArray} {p : ByteArray} (h : difB a b p = false) : dStep a b o p = o := if_neg (by rw [h]; simp)
theorem d_skip2 {a b : List It} {o : List ByteArray} {p : ByteArray} (h : o.getLast? = some p) : dStep a b o p = o := if_neg (fun e => e.2 h)
theorem d_app {a b : List It} {o : List ByteArray} {p : ByteArray} (h : difB a b p = true) (h2 : o.getLast? ≠ some p) : dStep a b o p = o ++ [p] := if_pos ⟨h, h2⟩
theorem d_at {a b : List It} {s : List It} {o : List ByteArray} {k : Nat} (h : k < s.length) : ((s.drop k).map (·.1)).foldl (dStep a b) o = ((s.drop (k + 1)).map (·.1)).foldl (dStep a b) (dStep a b o s[k].1) := by
  rw [List.drop_eq_getElem_cons h]; rfl
theorem node_eq (x0 y0 x1 y1 x2 y2 x3 y3 x4 y4 x5 y5 : Int) (x6 y6 : ByteArray) : (x0 == y0 && (x1 == y1 && (x2 == y2 && (x3 == y3 && (x4 == y4 && (x5 == y5 && (x6.toList == y6.toList))))))) = decide (((x0, x1, x2, x3, x4, x5, x6) : Nd) = (y0, y1, y2, y3, y4, y5, y6)) := by
  simp only [toList_inj, beq_dec, Prod.mk.injEq, Bool.decide_and]
theorem k_to_m {W w : World} {base : Nat} {ok : Nat → Prop} : ∀ (x : It) cs, itemK.K w x cs → itemK.M W base ok x cs := fun x cs h => by
  have := itemK_K h
  subst this
  exact itemK_M _ _ _ _
theorem dif_none1 {a b : List It} {p : ByteArray} (h : (findP a p).isSome = false) (h2 : (findP a p).isSome = true ∨ (findP b p).isSome = true) : difB a b p = true := by
  rw [node_some] at h
  rw [node_some, node_some] at h2
  refine decide_eq_true (fun e => ?_)
  rw [← e, h] at h2
  simp at h2
theorem dif_none2 {a b : List It} {p : ByteArray} (h : (findP b p).isSome = false) (h2 : (findP a p).isSome = true) : difB a b p = true := by
  rw [node_some] at h h2
  refine decide_eq_true (fun e => ?_)
  rw [← e, h2] at h
  cases h
theorem dif_both {a b : List It} {p : ByteArray} {n m : Nd} (h : nodeOf (findP a p) = n) (h2 : nodeOf (findP b p) = m) (s1 : (findP a p).isSome = true) (s2 : (findP b p).isSome = true) : difB a b p = !decide (n = m) := by
  unfold difB nodeP
  cases h3 : findP a p with
  | none => rw [h3] at s1; cases s1
  | some x =>
    cases h4 : findP b p with
    | none => rw [h4] at s2; cases s2
    | some y =>
      rw [h3] at h
      rw [h4] at h2
      have h : x.2 = n := h
      have h2 : y.2 = m := h2
      subst h h2
      by_cases e : x.2 = y.2
      · simp [e]
      · simp [e]
theorem find_app {a b : List It} {p : ByteArray} (h : ∃ x ∈ a ++ b, x.1 = p) : (findP a p).isSome = true ∨ (findP b p).isSome = true := by
  obtain ⟨x, hx, e⟩ := h
  rw [node_some, node_some, node_isSome, node_isSome]
  rcases List.mem_append.1 hx with h | h
  · exact .inl ⟨x, h, e⟩
  · exact .inr ⟨x, h, e⟩
set_option maxHeartbeats 16000000 in
set_option maxRecDepth 100000 in
theorem rdiffer_any (t u : List It) (A : Option Addr) (c : Nat) (Bd : Option Addr) (d : Nat) (W : World) (ht : ItemC W A t) (hu : ItemC W Bd u) (hn : t.length ≤ 300) (hm : u.length ≤ 300) (hs : ∀ x ∈ t, x.1.size ≤ 3000) (hs2 : ∀ x ∈ u, x.1.size ≤ 3000) :
    Calls Tryz.prog 21 #[.slice A t.length c, .slice Bd u.length d] W fun e w' => ∃ v, e = .returned v ∧ Kd.string.R 9 w' W.heap.size (fun _ => True) v (difP t u) ∧ Below W.heap.size W w' := by
  have HT := Lib.hid ht
  have HU := Lib.hid hu
  have hl1 := ht.2.1
  have hl2 := hu.2.1
  have HSZ : Hid (∀ x ∈ t ++ u, x.1.size ≤ 3000) := Lib.hid (fun x hx => by
    rcases List.mem_append.1 hx with e | e
    · exact hs x e
    · exact hs2 x e)
  have HON : Hid (∀ x ∈ sortP (t ++ u), (findP t x.1).isSome = true ∨ (findP u x.1).isSome = true) := Lib.hid (fun x hx => find_app ⟨x, sort_mem hx, rfl⟩)
  have hol : (sortP (t ++ u)).length ≤ 600 := by rw [sort_length, List.length_append]; omega
  obtain ⟨R, hR⟩ : ∃ R, R = difP t u := ⟨_, rfl⟩
  have HR0 : Hid ((((sortP (t ++ u)).drop 0).map (·.1)).foldl (dStep t u) [] = R) := Lib.hid hR.symm
  rw [← hR]
  clear hR ht hu hs hs2
  go_enter Tryz.func21, Tryz.ntmps21
  have HN0 : Hid (itemK.R 33 W W.heap.size (fun _ => True) (.slice none 0 0) []) := Lib.hid (Kd.R_nil _ _ _ _ _)
  have HB0 : Hid (Below W.heap.size W W) := Lib.hid (Below.refl _ _)
  go_wp2_with ((with_reducible refine gate_builtin (b := .append) (xs := #[.tmp 13, .tmp 14]) rfl ?_); at_builtin; refine Kd.R_append_rows itemK (Rr := itemK.K W) (w0 := W) W.heap.size rfl (.tmp 13) (.tmp 14) 22 33 (.agg #[.string ByteArray.empty, .int .i64 0, .int .u32 0, .int .u32 0, .int .u32 0, .int .i64 0, .int .i64 0, .string ByteArray.empty]) 72 rfl Tryz.underlying22 infoItem rfl (by decide) (by decide) (.slice none 0 0) [] t A t.length c (fun _ => True) (fun _ => False) rfl rfl ?aO ?aR ?aK (fun _ hk => hk.elim) ?aF ?aB ?aS ?aL ?_; skip)
  case aO => exact HN0.out
  case aR => exact HT.out
  case aK => exact k_to_m
  case aF => exact (fun _ _ => trivial)
  case aB => exact HB0.out
  case aS => exact HB0.out.size
  case aL => first | omega | (simp; done) | (simp; omega)
  intro va w1 ho hb5 hg5 hat5
  obtain ⟨A1, c1, hv1, hc1, hC1⟩ := Kd.R_reads ho
  subst hv1
  have HO1 : Hid (itemK.R 33 w1 W.heap.size (fun _ => True) (.slice A1 t.length c1) t) := Lib.hid ho
  have HB1 := Lib.hid hb5
  have HU1 := Lib.hid (Kd.C_below HU.out hb5)
  clear ho hb5 hg5 hat5 hC1 HN0 HB0
  go_wp2_with ((with_reducible refine gate_builtin (b := .append) (xs := #[.tmp 16, .tmp 17]) rfl ?_); at_builtin; refine Kd.R_append_rows itemK (Rr := itemK.K w1) (w0 := W) W.heap.size rfl (.tmp 16) (.tmp 17) 22 33 (.agg #[.string ByteArray.empty, .int .i64 0, .int .u32 0, .int .u32 0, .int .u32 0, .int .i64 0, .int .i64 0, .string ByteArray.empty]) 72 rfl Tryz.underlying22 infoItem rfl (by decide) (by decide) (.slice A1 t.length c1) t u Bd u.length d (fun _ => True) (fun _ => False) rfl rfl ?aO ?aR ?aK (fun _ hk => hk.elim) ?aF ?aB ?aS ?aL ?_; skip)
  case aO => exact HO1.out
  case aR => exact HU1.out
  case aK => exact k_to_m
  case aF => exact (fun _ _ => trivial)
  case aB => exact HB1.out
  case aS => exact HB1.out.size
  case aL => first | omega | (simp; done) | (simp; omega)
  intro vb w2 ho hb5 hg5 hat5
  obtain ⟨A2, c2, hv2, hc2, hC2⟩ := Kd.R_reads ho
  subst hv2
  have HB2 := Lib.hid hb5
  have HSO := Lib.hid (rsort_any (t ++ u) A2 c2 w2 hC2 (by rw [List.length_append]; omega) HSZ.out)
  rw [List.length_append] at HSO
  clear ho hb5 hg5 hat5 hC2 HO1 HB1 HU1 HSZ
  generalize sortP (t ++ u) = o at *
  go_wp2_with fail
  refine HSO.out.mono ?_
  rintro e w3 ⟨v3, rfl, hr3, hb3⟩
  obtain ⟨A3, c3, hv3, hc3, hC3⟩ := Kd.R_reads hr3
  subst hv3
  have HC := Lib.hid hC3
  have HB3 := Lib.hid (below_next HB2.out hb3)
  have HT := Lib.hid (Kd.C_below HT.out HB3.out)
  have HU := Lib.hid (Kd.C_below HU.out HB3.out)
  clear hr3 hb3 hC3 hc3 HB2 HSO
  go_wp2
  go_loopw [6, 22] (fun v i wr => ∃ (k : Nat) (acc : List ByteArray), k ≤ o.length ∧ acc.length ≤ k ∧ i = .int .i64 k ∧ Hid (((o.drop k).map (·.1)).foldl (dStep t u) acc = R) ∧ Hid (Kd.string.R 9 wr w3.heap.size (fun _ => True) v acc) ∧ Hid (Below w3.heap.size w3 wr)) (fun _ i _ => o.length - (intOf i).toNat)
  case atStart => exact ⟨0, [], by omega, by simp, rfl, HR0, Lib.hid (Kd.R_nil _ _ _ _ _), Lib.hid (Below.refl _ _)⟩
  case round =>
    clear HR0
    obtain ⟨k, acc, hk, hacc, rfl, HR, HO, HW⟩ := hrel
    obtain ⟨Av, cv, hv⟩ := Kd.R_slice HO.out
    subst hv
    by_cases hlt : k < o.length
    · obtain ⟨ad, rfl, e0, e1, e2, e3, e4, e5, e6, e7⟩ := item_at (Kd.C_below HC.out HW.out) hlt
      have hltI : (k : Int) < o.length := by omega
      have hr := HR.out
      rw [d_at hlt] at hr
      have hon := HON.out _ (List.getElem_mem hlt)
      clear HR
      generalize o[k] = x at *
      obtain ⟨x0, x1, x2, x3, x4, x5, x6, x7⟩ := x
      simp only at e0 e1 e2 e3 e4 e5 e6 e7 hr hon
      have HRR := Lib.hid hr
      have HONx := Lib.hid hon
      have hb := below_one wr (.cells #[.string x0, .int .i64 x1, .int .u32 x2, .int .u32 x3, .int .u32 x4, .int .i64 x5, .int .i64 x6, .string x7] 33)
      have HX := Lib.hid (heap_new wr (.cells #[.string x0, .int .i64 x1, .int .u32 x2, .int .u32 x3, .int .u32 x4, .int .i64 x5, .int .i64 x6, .string x7] 33))
      have HW1 := Lib.hid (below_next HW.out hb)
      have HO1 := Lib.hid (Kd.R_below HO.out hb)
      have c0 : (wr.alloc (.cells #[.string x0, .int .i64 x1, .int .u32 x2, .int .u32 x3, .int .u32 x4, .int .i64 x5, .int .i64 x6, .string x7] 33)).cell? ⟨wr.heap.size, 0, none⟩ = some (.string x0) := by rw [cell_of HX.out]; rfl
      clear hb HW HO hr hon
      have HF1 := Lib.hid (rfind_any t A c x0 (wr.alloc (.cells #[.string x0, .int .i64 x1, .int .u32 x2, .int .u32 x3, .int .u32 x4, .int .i64 x5, .int .i64 x6, .string x7] 33)) (Kd.C_below HT.out HW1.out))
      have HF2 : Hid (∀ W', Below w3.heap.size w3 W' → Calls Tryz.prog 15 #[.slice Bd u.length d, .string x0] W' fun e w' => e = .returned (.tuple #[aggN (nodeOf (findP u x0)), .bool (findP u x0).isSome]) ∧ Below W'.heap.size W' w') := Lib.hid (fun W' h => rfind_any u Bd d x0 W' (Kd.C_below HU.out h))
      have HD1 : Hid ((findP t x0).isSome = false → difB t u x0 = true) := Lib.hid (fun h => dif_none1 h HONx.out)
      have HD2 : Hid ((findP u x0).isSome = false → (findP t x0).isSome = true → difB t u x0 = true) := Lib.hid (fun h h2 => dif_none2 h h2)
      have HD3 : Hid (∀ n m, nodeOf (findP t x0) = n → nodeOf (findP u x0) = m → (findP t x0).isSome = true → (findP u x0).isSome = true → difB t u x0 = !decide (n = m)) := Lib.hid (fun n m h1 h2 s1 s2 => dif_both h1 h2 s1 s2)
      clear HONx
      generalize nodeOf (findP t x0) = na at *
      generalize nodeOf (findP u x0) = nb at *
      generalize (findP t x0).isSome = qa at *
      generalize (findP u x0).isSome = qb at *
      have HD3 := Lib.hid (HD3.out na nb rfl rfl)
      obtain ⟨a0, a1, a2, a3, a4, a5, a6⟩ := na
      obtain ⟨b0, b1, b2, b3, b4, b5, b6⟩ := nb
      unfold aggN at HF1 HF2
      go_wp2_with fail
      clear c0 e0 e1 e2 e3 e4 e5 e6 e7
      generalize wr.alloc (.cells #[.string x0, .int .i64 x1, .int .u32 x2, .int .u32 x3, .int .u32 x4, .int .i64 x5, .int .i64 x6, .string x7] 33) = wa at *
      generalize wr.heap.size = bx at *
      refine HF1.out.mono ?_
      rintro e wb ⟨rfl, hb⟩
      have hb2 := below_one wb (.cells #[.int .i64 a0, .int .u32 a1, .int .u32 a2, .int .u32 a3, .int .i64 a4, .int .i64 a5, .string a6] 31)
      have HXb := Lib.hid ((hb2.block bx (Array.getElem?_eq_some_iff.1 ((hb.block bx (Array.getElem?_eq_some_iff.1 HX.out).1).trans HX.out)).1).trans ((hb.block bx (Array.getElem?_eq_some_iff.1 HX.out).1).trans HX.out))
      have HWb := Lib.hid (below_next (below_next HW1.out hb) hb2)
      have HOb := Lib.hid (Kd.R_below (Kd.R_below HO1.out hb) hb2)
      have HNa := Lib.hid (heap_new wb (.cells #[.int .i64 a0, .int .u32 a1, .int .u32 a2, .int .u32 a3, .int .i64 a4, .int .i64 a5, .string a6] 31))
      have c0 : (wb.alloc (.cells #[.int .i64 a0, .int .u32 a1, .int .u32 a2, .int .u32 a3, .int .i64 a4, .int .i64 a5, .string a6] 31)).cell? ⟨bx, 0, none⟩ = some (.string x0) := by rw [cell_of HXb.out]; rfl
      have HF3 := Lib.hid (HF2.out _ HWb.out)
      clear hb hb2 HX HW1 HO1 HF1 HF2
      go_wp2_with fail
      clear c0
      generalize wb.alloc (.cells #[.int .i64 a0, .int .u32 a1, .int .u32 a2, .int .u32 a3, .int .i64 a4, .int .i64 a5, .string a6] 31) = wc at *
      generalize wb.heap.size = ba at *
      refine HF3.out.mono ?_
      rintro e wf ⟨rfl, hb⟩
      have hb2 := below_one wf (.cells #[.int .i64 b0, .int .u32 b1, .int .u32 b2, .int .u32 b3, .int .i64 b4, .int .i64 b5, .string b6] 31)
      have HXd := Lib.hid ((hb2.block bx (Array.getElem?_eq_some_iff.1 ((hb.block bx (Array.getElem?_eq_some_iff.1 HXb.out).1).trans HXb.out)).1).trans ((hb.block bx (Array.getElem?_eq_some_iff.1 HXb.out).1).trans HXb.out))
      have HNad := Lib.hid ((hb2.block ba (Array.getElem?_eq_some_iff.1 ((hb.block ba (Array.getElem?_eq_some_iff.1 HNa.out).1).trans HNa.out)).1).trans ((hb.block ba (Array.getElem?_eq_some_iff.1 HNa.out).1).trans HNa.out))
      have HWd := Lib.hid (below_next (below_next HWb.out hb) hb2)
      have HOd := Lib.hid (Kd.R_below (Kd.R_below HOb.out hb) hb2)
      have HNb := Lib.hid (heap_new wf (.cells #[.int .i64 b0, .int .u32 b1, .int .u32 b2, .int .u32 b3, .int .i64 b4, .int .i64 b5, .string b6] 31))
      clear hb hb2 HXb HWb HOb HNa HF3
      generalize hwd : wf.alloc (.cells #[.int .i64 b0, .int .u32 b1, .int .u32 b2, .int .u32 b3, .int .i64 b4, .int .i64 b5, .string b6] 31) = wd at *
      generalize hbb : wf.heap.size = bb at *
      have c0 : wd.cell? ⟨bx, 0, none⟩ = some (.string x0) := by rw [cell_of HXd.out]; rfl
      have p0 : wd.cell? ⟨ba, 0, none⟩ = some (.int .i64 a0) := by rw [cell_of HNad.out]; rfl
      have p1 : wd.cell? ⟨ba, 1, none⟩ = some (.int .u32 a1) := by rw [cell_of HNad.out]; rfl
      have p2 : wd.cell? ⟨ba, 2, none⟩ = some (.int .u32 a2) := by rw [cell_of HNad.out]; rfl
      have p3 : wd.cell? ⟨ba, 3, none⟩ = some (.int .u32 a3) := by rw [cell_of HNad.out]; rfl
      have p4 : wd.cell? ⟨ba, 4, none⟩ = some (.int .i64 a4) := by rw [cell_of HNad.out]; rfl
      have p5 : wd.cell? ⟨ba, 5, none⟩ = some (.int .i64 a5) := by rw [cell_of HNad.out]; rfl
      have p6 : wd.cell? ⟨ba, 6, none⟩ = some (.string a6) := by rw [cell_of HNad.out]; rfl
      have q0 : wd.cell? ⟨bb, 0, none⟩ = some (.int .i64 b0) := by rw [cell_of HNb.out]; rfl
      have q1 : wd.cell? ⟨bb, 1, none⟩ = some (.int .u32 b1) := by rw [cell_of HNb.out]; rfl
      have q2 : wd.cell? ⟨bb, 2, none⟩ = some (.int .u32 b2) := by rw [cell_of HNb.out]; rfl
      have q3 : wd.cell? ⟨bb, 3, none⟩ = some (.int .u32 b3) := by rw [cell_of HNb.out]; rfl
      have q4 : wd.cell? ⟨bb, 4, none⟩ = some (.int .i64 b4) := by rw [cell_of HNb.out]; rfl
      have q5 : wd.cell? ⟨bb, 5, none⟩ = some (.int .i64 b5) := by rw [cell_of HNb.out]; rfl
      have q6 : wd.cell? ⟨bb, 6, none⟩ = some (.string b6) := by rw [cell_of HNb.out]; rfl
      have he := fun (dd : Nat) (V : World) => eqNode dd V a0 b0 a1 b1 a2 b2 a3 b3 a4 b4 a5 b5 a6 b6
      rw [node_eq] at he
      clear HNad HNb
      cases qa with
      | false =>
        have hdf := HD1.out (by trivial)
        clear HD1 HD2 HD3
        rcases List.eq_nil_or_concat acc with hac | ⟨pre, z, hac⟩
        · have hzI : decide (0 < acc.length) = false := by rw [hac]; rfl
          have hgl : acc.getLast? ≠ some x0 := by rw [hac]; simp
          clear hac
          have HRn : Hid (((o.drop (k + 1)).map (·.1)).foldl (dStep t u) (acc ++ [x0]) = R) := Lib.hid (by have h := HRR.out; rw [d_app hdf hgl] at h; exact h)
          clear HRR
          go_wp2
          go_quiet (fail)
          have HW5 : Hid (Below w3.heap.size w3 (wd.drewN nq)) := Lib.hid (pw_below_drewN HWd.out nq)
          have HO5 := Lib.hid (Kd.R_drewN HOd.out nq)
          have HX5 : Hid ((wd.drewN nq).heap[bx]? = some (.cells #[.string x0, .int .i64 x1, .int .u32 x2, .int .u32 x3, .int .u32 x4, .int .i64 x5, .int .i64 x6, .string x7] 33 (0, 0))) := Lib.hid HXd.out
          generalize wd.drewN nq = w5 at *
          have k0 : w5.cell? ⟨bx, 0, none⟩ = some (.string x0) := by rw [cell_of HX5.out]; rfl
          go_wp2_with ((with_reducible refine gate_builtin (b := .append) (xs := #[.tmp 65, .tmp 68]) rfl ?_); at_builtin; refine Kd.R_append Kd.string (w0 := w3) w3.heap.size rfl (.tmp 65) (.tmp 68) 38 9 (.string ByteArray.empty) 16 rfl Tryz.underlying38 infoStr rfl (by decide) (by decide) (.slice Av acc.length cv) acc x0 [.string x0] (fun _ => True) (fun _ => False) rfl (by first | rfl | (simp; done) | (simp; rfl)) ?aP (fun _ hk => hk.elim) ?aF ?aO ?aB ?aS ?aL ?_; skip)
          case aP => exact rfl
          case aB => exact HW5.out
          case aF => exact (fun _ _ => trivial)
          case aO => exact HO5.out
          case aS => exact HW5.out.size
          case aL => first | omega | (simp; done) | (simp; omega)
          intro va w6 ho hb5 hg5 hat5
          have HO6 := Lib.hid ho
          have HW6 := Lib.hid hb5
          clear ho hb5 hg5 hat5
          go_wp2
          go_roundw
          case rel => exact ⟨k + 1, acc ++ [x0], by omega, by rw [List.length_append, List.length_singleton]; omega, by go_num, HRn, HO6, HW6⟩
          case measure => simp [intOf]; omega
        · have hac2 : acc = pre ++ [z] := by rw [hac, List.concat_eq_append]
          obtain ⟨m, hm1, hm2⟩ : ∃ m, m + 1 ≤ acc.length ∧ acc.length ≤ m + 1 := ⟨pre.length, by rw [hac2]; simp, by rw [hac2]; simp⟩
          have hzI : decide (0 < acc.length) = true := decide_eq_true (by omega)
          have hgl : acc.getLast? = some z := by rw [hac2]; simp
          have hlast : ∃ av, Av = some av ∧ wd.cell? (av.add m) = some (.string z) := by
            obtain ⟨av, e1, e2⟩ := str_at (k := m) (R_C HOd.out) (by omega)
            refine ⟨av, e1, ?_⟩
            rw [e2]
            have : acc[m]'(by omega) = z := by
              have h1 := List.getLast?_eq_getElem? (l := acc)
              rw [hgl, show acc.length - 1 = m by omega, List.getElem?_eq_getElem (show m < acc.length by omega)] at h1
              exact (Option.some.inj h1).symm
            rw [this]
          obtain ⟨av, hav, hl0⟩ := hlast
          subst hav
          have hmI : (acc.length : Int) - 1 = (m : Int) := by omega
          clear hac hac2
          by_cases hzx : z = x0
          · have qz : (z.toList == x0.toList) = true := by rw [toList_inj]; exact decide_eq_true hzx
            have HRn : Hid (((o.drop (k + 1)).map (·.1)).foldl (dStep t u) acc = R) := Lib.hid (by have h := HRR.out; rw [d_skip2 (by rw [hgl, hzx])] at h; exact h)
            clear HRR
            go_wp2
            go_quiet (fail)
            have HW5 : Hid (Below w3.heap.size w3 (wd.drewN nq)) := Lib.hid (pw_below_drewN HWd.out nq)
            have HO5 := Lib.hid (Kd.R_drewN HOd.out nq)
            have HX5 : Hid ((wd.drewN nq).heap[bx]? = some (.cells #[.string x0, .int .i64 x1, .int .u32 x2, .int .u32 x3, .int .u32 x4, .int .i64 x5, .int .i64 x6, .string x7] 33 (0, 0))) := Lib.hid HXd.out
            generalize wd.drewN nq = w5 at *
            go_wp2
            go_roundw
            case rel => exact ⟨k + 1, acc, by omega, by omega, by go_num, HRn, HO5, HW5⟩
            case measure => simp [intOf]; omega
          · have qz : (z.toList == x0.toList) = false := by rw [toList_inj]; exact decide_eq_false hzx
            have HRn : Hid (((o.drop (k + 1)).map (·.1)).foldl (dStep t u) (acc ++ [x0]) = R) := Lib.hid (by have h := HRR.out; rw [d_app hdf (by rw [hgl]; simpa using hzx)] at h; exact h)
            clear HRR
            go_wp2
            go_quiet (fail)
            have HW5 : Hid (Below w3.heap.size w3 (wd.drewN nq)) := Lib.hid (pw_below_drewN HWd.out nq)
            have HO5 := Lib.hid (Kd.R_drewN HOd.out nq)
            have HX5 : Hid ((wd.drewN nq).heap[bx]? = some (.cells #[.string x0, .int .i64 x1, .int .u32 x2, .int .u32 x3, .int .u32 x4, .int .i64 x5, .int .i64 x6, .string x7] 33 (0, 0))) := Lib.hid HXd.out
            generalize wd.drewN nq = w5 at *
            have k0 : w5.cell? ⟨bx, 0, none⟩ = some (.string x0) := by rw [cell_of HX5.out]; rfl
            go_wp2_with ((with_reducible refine gate_builtin (b := .append) (xs := #[.tmp 65, .tmp 68]) rfl ?_); at_builtin; refine Kd.R_append Kd.string (w0 := w3) w3.heap.size rfl (.tmp 65) (.tmp 68) 38 9 (.string ByteArray.empty) 16 rfl Tryz.underlying38 infoStr rfl (by decide) (by decide) (.slice (some av) acc.length cv) acc x0 [.string x0] (fun _ => True) (fun _ => False) rfl (by first | rfl | (simp; done) | (simp; rfl)) ?aP (fun _ hk => hk.elim) ?aF ?aO ?aB ?aS ?aL ?_; skip)
            case aP => exact rfl
            case aB => exact HW5.out
            case aF => exact (fun _ _ => trivial)
            case aO => exact HO5.out
            case aS => exact HW5.out.size
            case aL => first | omega | (simp; done) | (simp; omega)
            intro va w6 ho hb5 hg5 hat5
            have HO6 := Lib.hid ho
            have HW6 := Lib.hid hb5
            clear ho hb5 hg5 hat5
            go_wp2
            go_roundw
            case rel => exact ⟨k + 1, acc ++ [x0], by omega, by rw [List.length_append, List.length_singleton]; omega, by go_num, HRn, HO6, HW6⟩
            case measure => simp [intOf]; omega
      | true =>
      cases qb with
      | false =>
        have hdf := HD2.out (by trivial) (by trivial)
        clear HD1 HD2 HD3
        rcases List.eq_nil_or_concat acc with hac | ⟨pre, z, hac⟩
        · have hzI : decide (0 < acc.length) = false := by rw [hac]; rfl
          have hgl : acc.getLast? ≠ some x0 := by rw [hac]; simp
          clear hac
          have HRn : Hid (((o.drop (k + 1)).map (·.1)).foldl (dStep t u) (acc ++ [x0]) = R) := Lib.hid (by have h := HRR.out; rw [d_app hdf hgl] at h; exact h)
          clear HRR
          go_wp2
          go_quiet (fail)
          have HW5 : Hid (Below w3.heap.size w3 (wd.drewN nq)) := Lib.hid (pw_below_drewN HWd.out nq)
          have HO5 := Lib.hid (Kd.R_drewN HOd.out nq)
          have HX5 : Hid ((wd.drewN nq).heap[bx]? = some (.cells #[.string x0, .int .i64 x1, .int .u32 x2, .int .u32 x3, .int .u32 x4, .int .i64 x5, .int .i64 x6, .string x7] 33 (0, 0))) := Lib.hid HXd.out
          generalize wd.drewN nq = w5 at *
          have k0 : w5.cell? ⟨bx, 0, none⟩ = some (.string x0) := by rw [cell_of HX5.out]; rfl
          go_wp2_with ((with_reducible refine gate_builtin (b := .append) (xs := #[.tmp 65, .tmp 68]) rfl ?_); at_builtin; refine Kd.R_append Kd.string (w0 := w3) w3.heap.size rfl (.tmp 65) (.tmp 68) 38 9 (.string ByteArray.empty) 16 rfl Tryz.underlying38 infoStr rfl (by decide) (by decide) (.slice Av acc.length cv) acc x0 [.string x0] (fun _ => True) (fun _ => False) rfl (by first | rfl | (simp; done) | (simp; rfl)) ?aP (fun _ hk => hk.elim) ?aF ?aO ?aB ?aS ?aL ?_; skip)
          case aP => exact rfl
          case aB => exact HW5.out
          case aF => exact (fun _ _ => trivial)
          case aO => exact HO5.out
          case aS => exact HW5.out.size
          case aL => first | omega | (simp; done) | (simp; omega)
          intro va w6 ho hb5 hg5 hat5
          have HO6 := Lib.hid ho
          have HW6 := Lib.hid hb5
          clear ho hb5 hg5 hat5
          go_wp2
          go_roundw
          case rel => exact ⟨k + 1, acc ++ [x0], by omega, by rw [List.length_append, List.length_singleton]; omega, by go_num, HRn, HO6, HW6⟩
          case measure => simp [intOf]; omega
        · have hac2 : acc = pre ++ [z] := by rw [hac, List.concat_eq_append]
          obtain ⟨m, hm1, hm2⟩ : ∃ m, m + 1 ≤ acc.length ∧ acc.length ≤ m + 1 := ⟨pre.length, by rw [hac2]; simp, by rw [hac2]; simp⟩
          have hzI : decide (0 < acc.length) = true := decide_eq_true (by omega)
          have hgl : acc.getLast? = some z := by rw [hac2]; simp
          have hlast : ∃ av, Av = some av ∧ wd.cell? (av.add m) = some (.string z) := by
            obtain ⟨av, e1, e2⟩ := str_at (k := m) (R_C HOd.out) (by omega)
            refine ⟨av, e1, ?_⟩
            rw [e2]
            have : acc[m]'(by omega) = z := by
              have h1 := List.getLast?_eq_getElem? (l := acc)
              rw [hgl, show acc.length - 1 = m by omega, List.getElem?_eq_getElem (show m < acc.length by omega)] at h1
              exact (Option.some.inj h1).symm
            rw [this]
          obtain ⟨av, hav, hl0⟩ := hlast
          subst hav
          have hmI : (acc.length : Int) - 1 = (m : Int) := by omega
          clear hac hac2
          by_cases hzx : z = x0
          · have qz : (z.toList == x0.toList) = true := by rw [toList_inj]; exact decide_eq_true hzx
            have HRn : Hid (((o.drop (k + 1)).map (·.1)).foldl (dStep t u) acc = R) := Lib.hid (by have h := HRR.out; rw [d_skip2 (by rw [hgl, hzx])] at h; exact h)
            clear HRR
            go_wp2
            go_quiet (fail)
            have HW5 : Hid (Below w3.heap.size w3 (wd.drewN nq)) := Lib.hid (pw_below_drewN HWd.out nq)
            have HO5 := Lib.hid (Kd.R_drewN HOd.out nq)
            have HX5 : Hid ((wd.drewN nq).heap[bx]? = some (.cells #[.string x0, .int .i64 x1, .int .u32 x2, .int .u32 x3, .int .u32 x4, .int .i64 x5, .int .i64 x6, .string x7] 33 (0, 0))) := Lib.hid HXd.out
            generalize wd.drewN nq = w5 at *
            go_wp2
            go_roundw
            case rel => exact ⟨k + 1, acc, by omega, by omega, by go_num, HRn, HO5, HW5⟩
            case measure => simp [intOf]; omega
          · have qz : (z.toList == x0.toList) = false := by rw [toList_inj]; exact decide_eq_false hzx
            have HRn : Hid (((o.drop (k + 1)).map (·.1)).foldl (dStep t u) (acc ++ [x0]) = R) := Lib.hid (by have h := HRR.out; rw [d_app hdf (by rw [hgl]; simpa using hzx)] at h; exact h)
            clear HRR
            go_wp2
            go_quiet (fail)
            have HW5 : Hid (Below w3.heap.size w3 (wd.drewN nq)) := Lib.hid (pw_below_drewN HWd.out nq)
            have HO5 := Lib.hid (Kd.R_drewN HOd.out nq)
            have HX5 : Hid ((wd.drewN nq).heap[bx]? = some (.cells #[.string x0, .int .i64 x1, .int .u32 x2, .int .u32 x3, .int .u32 x4, .int .i64 x5, .int .i64 x6, .string x7] 33 (0, 0))) := Lib.hid HXd.out
            generalize wd.drewN nq = w5 at *
            have k0 : w5.cell? ⟨bx, 0, none⟩ = some (.string x0) := by rw [cell_of HX5.out]; rfl
            go_wp2_with ((with_reducible refine gate_builtin (b := .append) (xs := #[.tmp 65, .tmp 68]) rfl ?_); at_builtin; refine Kd.R_append Kd.string (w0 := w3) w3.heap.size rfl (.tmp 65) (.tmp 68) 38 9 (.string ByteArray.empty) 16 rfl Tryz.underlying38 infoStr rfl (by decide) (by decide) (.slice (some av) acc.length cv) acc x0 [.string x0] (fun _ => True) (fun _ => False) rfl (by first | rfl | (simp; done) | (simp; rfl)) ?aP (fun _ hk => hk.elim) ?aF ?aO ?aB ?aS ?aL ?_; skip)
            case aP => exact rfl
            case aB => exact HW5.out
            case aF => exact (fun _ _ => trivial)
            case aO => exact HO5.out
            case aS => exact HW5.out.size
            case aL => first | omega | (simp; done) | (simp; omega)
            intro va w6 ho hb5 hg5 hat5
            have HO6 := Lib.hid ho
            have HW6 := Lib.hid hb5
            clear ho hb5 hg5 hat5
            go_wp2
            go_roundw
            case rel => exact ⟨k + 1, acc ++ [x0], by omega, by rw [List.length_append, List.length_singleton]; omega, by go_num, HRn, HO6, HW6⟩
            case measure => simp [intOf]; omega
      | true =>
      have hdf := HD3.out (by trivial) (by trivial)
      clear HD1 HD2 HD3
      generalize decide (((a0, a1, a2, a3, a4, a5, a6) : Nd) = (b0, b1, b2, b3, b4, b5, b6)) = qe at *
      cases qe with
      | true =>
        have hdf2 : difB t u x0 = false := hdf
        clear hdf
        have HRn : Hid (((o.drop (k + 1)).map (·.1)).foldl (dStep t u) acc = R) := Lib.hid (by have h := HRR.out; rw [d_skip1 hdf2] at h; exact h)
        clear HRR
        go_wp2
        go_quiet (fail)
        have HW5 : Hid (Below w3.heap.size w3 (wd.drewN nq)) := Lib.hid (pw_below_drewN HWd.out nq)
        have HO5 := Lib.hid (Kd.R_drewN HOd.out nq)
        have HX5 : Hid ((wd.drewN nq).heap[bx]? = some (.cells #[.string x0, .int .i64 x1, .int .u32 x2, .int .u32 x3, .int .u32 x4, .int .i64 x5, .int .i64 x6, .string x7] 33 (0, 0))) := Lib.hid HXd.out
        generalize wd.drewN nq = w5 at *
        go_wp2
        go_roundw
        case rel => exact ⟨k + 1, acc, by omega, by omega, by go_num, HRn, HO5, HW5⟩
        case measure => simp [intOf]; omega
      | false =>
        have hdf2 : difB t u x0 = true := hdf
        clear hdf
        rcases List.eq_nil_or_concat acc with hac | ⟨pre, z, hac⟩
        · have hzI : decide (0 < acc.length) = false := by rw [hac]; rfl
          have hgl : acc.getLast? ≠ some x0 := by rw [hac]; simp
          clear hac
          have HRn : Hid (((o.drop (k + 1)).map (·.1)).foldl (dStep t u) (acc ++ [x0]) = R) := Lib.hid (by have h := HRR.out; rw [d_app hdf2 hgl] at h; exact h)
          clear HRR
          go_wp2
          go_quiet (fail)
          have HW5 : Hid (Below w3.heap.size w3 (wd.drewN nq)) := Lib.hid (pw_below_drewN HWd.out nq)
          have HO5 := Lib.hid (Kd.R_drewN HOd.out nq)
          have HX5 : Hid ((wd.drewN nq).heap[bx]? = some (.cells #[.string x0, .int .i64 x1, .int .u32 x2, .int .u32 x3, .int .u32 x4, .int .i64 x5, .int .i64 x6, .string x7] 33 (0, 0))) := Lib.hid HXd.out
          generalize wd.drewN nq = w5 at *
          have k0 : w5.cell? ⟨bx, 0, none⟩ = some (.string x0) := by rw [cell_of HX5.out]; rfl
          go_wp2_with ((with_reducible refine gate_builtin (b := .append) (xs := #[.tmp 65, .tmp 68]) rfl ?_); at_builtin; refine Kd.R_append Kd.string (w0 := w3) w3.heap.size rfl (.tmp 65) (.tmp 68) 38 9 (.string ByteArray.empty) 16 rfl Tryz.underlying38 infoStr rfl (by decide) (by decide) (.slice Av acc.length cv) acc x0 [.string x0] (fun _ => True) (fun _ => False) rfl (by first | rfl | (simp; done) | (simp; rfl)) ?aP (fun _ hk => hk.elim) ?aF ?aO ?aB ?aS ?aL ?_; skip)
          case aP => exact rfl
          case aB => exact HW5.out
          case aF => exact (fun _ _ => trivial)
          case aO => exact HO5.out
          case aS => exact HW5.out.size
          case aL => first | omega | (simp; done) | (simp; omega)
          intro va w6 ho hb5 hg5 hat5
          have HO6 := Lib.hid ho
          have HW6 := Lib.hid hb5
          clear ho hb5 hg5 hat5
          go_wp2
          go_roundw
          case rel => exact ⟨k + 1, acc ++ [x0], by omega, by rw [List.length_append, List.length_singleton]; omega, by go_num, HRn, HO6, HW6⟩
          case measure => simp [intOf]; omega
        · have hac2 : acc = pre ++ [z] := by rw [hac, List.concat_eq_append]
          obtain ⟨m, hm1, hm2⟩ : ∃ m, m + 1 ≤ acc.length ∧ acc.length ≤ m + 1 := ⟨pre.length, by rw [hac2]; simp, by rw [hac2]; simp⟩
          have hzI : decide (0 < acc.length) = true := decide_eq_true (by omega)
          have hgl : acc.getLast? = some z := by rw [hac2]; simp
          have hlast : ∃ av, Av = some av ∧ wd.cell? (av.add m) = some (.string z) := by
            obtain ⟨av, e1, e2⟩ := str_at (k := m) (R_C HOd.out) (by omega)
            refine ⟨av, e1, ?_⟩
            rw [e2]
            have : acc[m]'(by omega) = z := by
              have h1 := List.getLast?_eq_getElem? (l := acc)
              rw [hgl, show acc.length - 1 = m by omega, List.getElem?_eq_getElem (show m < acc.length by omega)] at h1
              exact (Option.some.inj h1).symm
            rw [this]
          obtain ⟨av, hav, hl0⟩ := hlast
          subst hav
          have hmI : (acc.length : Int) - 1 = (m : Int) := by omega
          clear hac hac2
          by_cases hzx : z = x0
          · have qz : (z.toList == x0.toList) = true := by rw [toList_inj]; exact decide_eq_true hzx
            have HRn : Hid (((o.drop (k + 1)).map (·.1)).foldl (dStep t u) acc = R) := Lib.hid (by have h := HRR.out; rw [d_skip2 (by rw [hgl, hzx])] at h; exact h)
            clear HRR
            go_wp2
            go_quiet (fail)
            have HW5 : Hid (Below w3.heap.size w3 (wd.drewN nq)) := Lib.hid (pw_below_drewN HWd.out nq)
            have HO5 := Lib.hid (Kd.R_drewN HOd.out nq)
            have HX5 : Hid ((wd.drewN nq).heap[bx]? = some (.cells #[.string x0, .int .i64 x1, .int .u32 x2, .int .u32 x3, .int .u32 x4, .int .i64 x5, .int .i64 x6, .string x7] 33 (0, 0))) := Lib.hid HXd.out
            generalize wd.drewN nq = w5 at *
            go_wp2
            go_roundw
            case rel => exact ⟨k + 1, acc, by omega, by omega, by go_num, HRn, HO5, HW5⟩
            case measure => simp [intOf]; omega
          · have qz : (z.toList == x0.toList) = false := by rw [toList_inj]; exact decide_eq_false hzx
            have HRn : Hid (((o.drop (k + 1)).map (·.1)).foldl (dStep t u) (acc ++ [x0]) = R) := Lib.hid (by have h := HRR.out; rw [d_app hdf2 (by rw [hgl]; simpa using hzx)] at h; exact h)
            clear HRR
            go_wp2
            go_quiet (fail)
            have HW5 : Hid (Below w3.heap.size w3 (wd.drewN nq)) := Lib.hid (pw_below_drewN HWd.out nq)
            have HO5 := Lib.hid (Kd.R_drewN HOd.out nq)
            have HX5 : Hid ((wd.drewN nq).heap[bx]? = some (.cells #[.string x0, .int .i64 x1, .int .u32 x2, .int .u32 x3, .int .u32 x4, .int .i64 x5, .int .i64 x6, .string x7] 33 (0, 0))) := Lib.hid HXd.out
            generalize wd.drewN nq = w5 at *
            have k0 : w5.cell? ⟨bx, 0, none⟩ = some (.string x0) := by rw [cell_of HX5.out]; rfl
            go_wp2_with ((with_reducible refine gate_builtin (b := .append) (xs := #[.tmp 65, .tmp 68]) rfl ?_); at_builtin; refine Kd.R_append Kd.string (w0 := w3) w3.heap.size rfl (.tmp 65) (.tmp 68) 38 9 (.string ByteArray.empty) 16 rfl Tryz.underlying38 infoStr rfl (by decide) (by decide) (.slice (some av) acc.length cv) acc x0 [.string x0] (fun _ => True) (fun _ => False) rfl (by first | rfl | (simp; done) | (simp; rfl)) ?aP (fun _ hk => hk.elim) ?aF ?aO ?aB ?aS ?aL ?_; skip)
            case aP => exact rfl
            case aB => exact HW5.out
            case aF => exact (fun _ _ => trivial)
            case aO => exact HO5.out
            case aS => exact HW5.out.size
            case aL => first | omega | (simp; done) | (simp; omega)
            intro va w6 ho hb5 hg5 hat5
            have HO6 := Lib.hid ho
            have HW6 := Lib.hid hb5
            clear ho hb5 hg5 hat5
            go_wp2
            go_roundw
            case rel => exact ⟨k + 1, acc ++ [x0], by omega, by rw [List.length_append, List.length_singleton]; omega, by go_num, HRn, HO6, HW6⟩
            case measure => simp [intOf]; omega
    · have HS : Hid (acc = R) := Lib.hid (by have := HR.out; rw [List.drop_of_length_le (by omega)] at this; exact this)
      clear HR
      have HBE := Lib.hid (below_next HB3.out HW.out)
      have HOE := Lib.hid (Kd.R_lower HO.out HB3.out.size)
      go_wp2
      go_ret
      exact ⟨_, rfl, by rw [← HS.out]; exact HOE.out, HBE.out⟩
end Go.Proofs.YtpjjooiamdfmfaaGreatDoor.TreeRDiff
