/- the document's Fill. -/
import Derived.Test.YtpjjooiamdfmfaaGreatDoorTreeRef2
import Derived.Test.YtpjjooiamdfmfaaGreatDoorFillA
import Derived.Test.YtpjjooiamdfmfaaGreatDoorPN
set_option linter.unusedVariables false
set_option linter.unusedSimpArgs false
namespace Go.Proofs.YtpjjooiamdfmfaaGreatDoor.TreeRFill
open Go.RowKit Go.Proofs.YtpjjooiamdfmfaaGreatDoorW.PrintWords Go.Proofs.YtpjjooiamdfmfaaGreatDoorW.PrintLast Go.Proofs.YtpjjooiamdfmfaaGreatDoorW.PrintMore Go.Proofs.YtpjjooiamdfmfaaGreatDoor.Item Go.Proofs.YtpjjooiamdfmfaaGreatDoor.Own Go.Proofs.YtpjjooiamdfmfaaGreatDoor.TreeLaw Go.Proofs.YtpjjooiamdfmfaaGreatDoor.NameLaw Go.Proofs.YtpjjooiamdfmfaaGreatDoor.NameWalk Go.Proofs.YtpjjooiamdfmfaaGreatDoor.NameOrd Go.Proofs.YtpjjooiamdfmfaaGreatDoor.NameRef Go.Proofs.YtpjjooiamdfmfaaGreatDoor.NameUse Go.Proofs.YtpjjooiamdfmfaaGreatDoor.SortIns Go.Proofs.YtpjjooiamdfmfaaGreatDoor.NodeRes Go.Proofs.YtpjjooiamdfmfaaGreatDoor.TreeRef Go.Proofs.YtpjjooiamdfmfaaGreatDoor.TreeRight Go.Proofs.YtpjjooiamdfmfaaGreatDoor.TreeTright Go.Proofs.YtpjjooiamdfmfaaGreatDoor.TreeNodes Go.Proofs.YtpjjooiamdfmfaaGreatDoor.FillLaw Go.Proofs.YtpjjooiamdfmfaaGreatDoor.FillKit Go.Proofs.YtpjjooiamdfmfaaGreatDoor.RSort Go.Proofs.YtpjjooiamdfmfaaGreatDoor.DiffLaw Go.Proofs.YtpjjooiamdfmfaaGreatDoor.TreeRef2

theorem rparent_next {w w1 : World} (HB : Hid (Below w.heap.size w w1)) (a : ByteArray) (ha : a.size ≤ 100000) :
    Calls Tryz.prog 51 #[.string a] w1 fun e w' => e = .returned (.string (parentT a)) ∧ Hid (Below w.heap.size w w') :=
  (PNm.portmanteauref10_Parent.calls (a.size + 1) a _ w1 (rparent_f _ a ha (by omega))).mono fun _ _ h => ⟨h.1, Lib.hid (by obtain ⟨n, rfl⟩ := h.2; exact pw_below_drewN HB.out n)⟩
theorem putS {t : List It} {x : It} {n : Nat} (h : ∀ y ∈ t, y.1.size ≤ n) (hx : x.1.size ≤ n) : ∀ y ∈ putP t x, y.1.size ≤ n := by
  intro y hy
  unfold putP at hy
  rcases List.mem_append.1 hy with e | e
  · exact h y (List.mem_filter.1 (List.mem_of_mem_take e)).1
  · rcases List.mem_cons.1 e with e | e
    · rw [e]; exact hx
    · exact h y (List.mem_filter.1 (List.mem_of_mem_drop e)).1
set_option maxHeartbeats 16000000 in
set_option maxRecDepth 100000 in
theorem rfill_any (l : List It) (A : Option Addr) (c : Nat) (kd mo ui gi mt at_ : Int) (da : ByteArray) (W : World) (hl : ItemC W A l) (hn : l.length ≤ 300) (hsz : ∀ x ∈ l, x.1.size ≤ 3000) :
    Calls Tryz.prog 19 #[.slice A l.length c, .agg #[.int .i64 kd, .int .u32 mo, .int .u32 ui, .int .u32 gi, .int .i64 mt, .int .i64 at_, .string da]] W fun e w' => ∃ A2 c2, e = .returned (.tuple #[.slice A2 (fillR l (kd, mo, ui, gi, mt, at_, da)).1.length c2, .bool (fillR l (kd, mo, ui, gi, mt, at_, da)).2]) ∧ ItemC w' A2 (fillR l (kd, mo, ui, gi, mt, at_, da)).1 ∧ Below W.heap.size W w' := by
  have HZ : Hid (∀ x ∈ sortP l, x.1.size ≤ 3000) := Lib.hid (fun x hx => hsz x (sort_mem hx))
  have hb1 := below_one W (.cells #[.int .i64 kd, .int .u32 mo, .int .u32 ui, .int .u32 gi, .int .i64 mt, .int .i64 at_, .string da] 31)
  have HB0 := Lib.hid hb1
  have HN0 := Lib.hid (heap_new W (.cells #[.int .i64 kd, .int .u32 mo, .int .u32 ui, .int .u32 gi, .int .i64 mt, .int .i64 at_, .string da] 31))
  have HSO := Lib.hid (rsort_any l A c (W.alloc (.cells #[.int .i64 kd, .int .u32 mo, .int .u32 ui, .int .u32 gi, .int .i64 mt, .int .i64 at_, .string da] 31)) (Kd.C_below hl hb1) (by omega) hsz)
  have hrl : (sortP l).length ≤ 300 := by rw [sort_length]; exact hn
  have HFP : Hid (fillR l (kd, mo, ui, gi, mt, at_, da) = match fillAllR (sortP l) (kd, mo, ui, gi, mt, at_, da) (sortP l) (sortP l) with | some o => (o, true) | none => (sortP l, false)) := Lib.hid rfl
  clear hb1 hl hsz
  generalize sortP l = rows at *
  go_enter Tryz.func19, Tryz.ntmps19
  go_wp2_with fail
  generalize W.alloc (.cells #[.int .i64 kd, .int .u32 mo, .int .u32 ui, .int .u32 gi, .int .i64 mt, .int .i64 at_, .string da] 31) = U1 at *
  generalize hnb : W.heap.size = nb at *
  refine HSO.out.mono ?_
  rintro e w2 ⟨v, rfl, hr, hb2⟩
  obtain ⟨Ar, cr, hv, _, hCr⟩ := Kd.R_reads hr
  subst hv
  have HB : Hid (Below nb W w2) := Lib.hid (by subst hnb; exact below_next HB0.out hb2)
  have HN := Lib.hid ((hb2.block _ (Array.getElem?_eq_some_iff.1 HN0.out).1).trans HN0.out)
  have HC := Lib.hid hCr
  clear hr HSO hCr hb2 HB0 HN0
  obtain ⟨R, hR⟩ : ∃ R, R = fillAllR rows (kd, mo, ui, gi, mt, at_, da) rows rows := ⟨_, rfl⟩
  rw [← hR] at HFP
  have HR0 : Hid (fillAllR rows (kd, mo, ui, gi, mt, at_, da) (rows.drop 0) rows = R) := Lib.hid hR.symm
  clear hR
  have hl2 := HC.out.2.1
  go_wp2
  go_loopw [7, 18] (fun v7 v18 wr => ∃ (k : Nat) (A2 : Option Addr) (c2 : Nat) (t : List It), k ≤ rows.length ∧ v18 = .int .i64 k ∧ v7 = .slice A2 t.length c2 ∧ t.length ≤ 300 + k * 3000 ∧ Hid (∀ x ∈ t, x.1.size ≤ 3000) ∧ Hid (ItemC wr A2 t) ∧ Hid (ItemC wr Ar rows) ∧ Hid (wr.heap[nb]? = some (.cells #[.int .i64 kd, .int .u32 mo, .int .u32 ui, .int .u32 gi, .int .i64 mt, .int .i64 at_, .string da] 31 (0, 0))) ∧ Hid (fillAllR rows (kd, mo, ui, gi, mt, at_, da) (rows.drop k) t = R) ∧ Hid (Below nb W wr)) (fun _ v _ => rows.length - (intOf v).toNat)
  case atStart => exact ⟨0, Ar, cr, rows, by omega, rfl, rfl, by omega, HZ, HC, HC, HN, HR0, HB⟩
  case round =>
    clear HC HN HR0 HB
    obtain ⟨k, A2, c2, t, hk, rfl, rfl, htl, HS, HT, HC, HN, HF, HB⟩ := hrel
    by_cases hlt : k < rows.length
    · obtain ⟨ad, rfl, e0, e1, e2, e3, e4, e5, e6, e7⟩ := item_at HC.out hlt
      have hltI : (k : Int) < rows.length := by omega
      have hm := HZ.out _ (List.getElem_mem hlt)
      have hf := HF.out
      rw [List.drop_eq_getElem_cons hlt] at hf
      clear HF
      generalize rows[k] = x at *
      obtain ⟨x0, x1, x2, x3, x4, x5, x6, x7⟩ := x
      have HSX : Hid (x0.size ≤ 3000) := Lib.hid hm
      have HF : Hid ((fillUpR rows (kd, mo, ui, gi, mt, at_, da) x0.size (parentT x0) t).bind (fillAllR rows (kd, mo, ui, gi, mt, at_, da) (rows.drop (k + 1))) = R) := Lib.hid hf
      clear hf hm
      simp only at e0 e1 e2 e3 e4 e5 e6 e7
      have c0 : (wr.alloc (.cells #[.string x0, .int .i64 x1, .int .u32 x2, .int .u32 x3, .int .u32 x4, .int .i64 x5, .int .i64 x6, .string x7] 33)).cell? ⟨wr.heap.size, 0, none⟩ = some (.string x0) := by rw [cell_of (heap_new wr _)]; rfl
      have hb2 := below_one wr (.cells #[.string x0, .int .i64 x1, .int .u32 x2, .int .u32 x3, .int .u32 x4, .int .i64 x5, .int .i64 x6, .string x7] 33)
      have HT2 := Lib.hid (Kd.C_below HT.out hb2)
      have HC2 := Lib.hid (Kd.C_below HC.out hb2)
      have HN2 := Lib.hid ((hb2.block _ (Array.getElem?_eq_some_iff.1 HN.out).1).trans HN.out)
      have HB2 : Hid (Below nb W (wr.alloc (.cells #[.string x0, .int .i64 x1, .int .u32 x2, .int .u32 x3, .int .u32 x4, .int .i64 x5, .int .i64 x6, .string x7] 33))) := Lib.hid (by subst hnb; exact below_next HB.out hb2)
      have HPA := Lib.hid (rparent_next (w := (wr.alloc (.cells #[.string x0, .int .i64 x1, .int .u32 x2, .int .u32 x3, .int .u32 x4, .int .i64 x5, .int .i64 x6, .string x7] 33))) (Lib.hid (Below.refl _ _)) x0 (by have := HSX.out; omega))
      clear hb2 HT HC HN HB
      go_wp2_with fail
      generalize hW4 : wr.alloc (.cells #[.string x0, .int .i64 x1, .int .u32 x2, .int .u32 x3, .int .u32 x4, .int .i64 x5, .int .i64 x6, .string x7] 33) = W4 at *
      refine HPA.out.mono ?_
      rintro e w5 ⟨rfl, hb5⟩
      have HT5 := Lib.hid (Kd.C_below HT2.out hb5.out)
      have HC5 := Lib.hid (Kd.C_below HC2.out hb5.out)
      have HN5 := Lib.hid ((hb5.out.block _ (Array.getElem?_eq_some_iff.1 HN2.out).1).trans HN2.out)
      have HB5 : Hid (Below nb W w5) := Lib.hid (by subst hnb; exact below_next HB2.out hb5.out)
      have HF5 : Hid (∃ n, (parentT x0).size ≤ n ∧ (fillUpR rows (kd, mo, ui, gi, mt, at_, da) n (parentT x0) t).bind (fillAllR rows (kd, mo, ui, gi, mt, at_, da) (rows.drop (k + 1))) = R) := Lib.hid ⟨x0.size, parent_le x0, HF.out⟩
      have hps : t.length + (parentT x0).size ≤ 300 + (k + 1) * 3000 := by have := parent_le x0; have := HSX.out; omega
      have hp0 : (parentT x0).size ≤ 3000 := by have := parent_le x0; have := HSX.out; omega
      clear HT2 HC2 HN2 HB2 HF HPA hb5 hW4 HSX htl c0 e0 e1 e2 e3 e4 e5 e6 e7
      generalize parentT x0 = p0 at *
      go_wp2
      go_loopw [7, 10] (fun v7 v10 wi => ∃ (A3 : Option Addr) (c3 : Nat) (t3 : List It) (p3 : ByteArray), v10 = .string p3 ∧ v7 = .slice A3 t3.length c3 ∧ p3.size ≤ 3000 ∧ t3.length + p3.size ≤ 300 + (k + 1) * 3000 ∧ Hid (∀ x ∈ t3, x.1.size ≤ 3000) ∧ Hid (ItemC wi A3 t3) ∧ Hid (ItemC wi (some ad) rows) ∧ Hid (wi.heap[nb]? = some (.cells #[.int .i64 kd, .int .u32 mo, .int .u32 ui, .int .u32 gi, .int .i64 mt, .int .i64 at_, .string da] 31 (0, 0))) ∧ Hid (∃ n, p3.size ≤ n ∧ (fillUpR rows (kd, mo, ui, gi, mt, at_, da) n p3 t3).bind (fillAllR rows (kd, mo, ui, gi, mt, at_, da) (rows.drop (k + 1))) = R) ∧ Hid (Below nb W wi)) (fun _ v _ => (match v with | .string q => q.size | _ => 0))
      case atStart => exact ⟨A2, c2, t, p0, rfl, rfl, hp0, hps, HS, HT5, HC5, HN5, HF5, HB5⟩
      case round =>
        clear HT5 HC5 HN5 HF5 HB5 hps hp0 HS
        obtain ⟨A3, c3, t3, p3, rfl, rfl, hp3, hb3, HS, HT, HC, HN, HF, HB⟩ := hrel
        by_cases g7 : p3.data.toList = []
        · have q7 := emp_t g7
          have q8 := emq_t g7
          have HF2 : Hid (fillAllR rows (kd, mo, ui, gi, mt, at_, da) (rows.drop (k + 1)) t3 = R) := Lib.hid (by
            obtain ⟨n, _, e⟩ := HF.out
            cases n with
            | zero => exact e
            | succ n => unfold fillUpR at e; rw [if_pos g7] at e; exact e)
          have hl3 : t3.length ≤ 300 + (k + 1) * 3000 := by omega
          clear HF g7 hb3
          go_wp2
          go_roundw
          case rel => exact ⟨k + 1, A3, c3, t3, by omega, by go_num, rfl, hl3, HS, HT, HC, HN, HF2, HB⟩
          case measure => simp [intOf]; omega
        · have q7 := emp_f g7
          have q8 := emq_f g7
          obtain ⟨m, hm, hf0⟩ : ∃ m, (parentT p3).size ≤ m ∧ (match nodeP t3 p3 with | some x => if x.1 ≠ 1 ∧ (findP rows p3).isSome = true then none else fillUpR rows (kd, mo, ui, gi, mt, at_, da) m (parentT p3) t3 | none => fillUpR rows (kd, mo, ui, gi, mt, at_, da) m (parentT p3) (putP t3 (p3, (kd, mo, ui, gi, mt, at_, da)))).bind (fillAllR rows (kd, mo, ui, gi, mt, at_, da) (rows.drop (k + 1))) = R := by
            obtain ⟨n, hn, e⟩ := HF.out
            have hlt := parent_lt g7
            cases n with
            | zero => omega
            | succ n => unfold fillUpR at e; rw [if_neg g7] at e; exact ⟨n, by omega, e⟩
          have hpl := parent_lt g7
          have HFI := Lib.hid (rfind_any t3 A3 c3 p3 wr HT.out)
          have HFF := Lib.hid hf0
          clear HF hf0
          go_wp2_with fail
          refine HFI.out.mono ?_
          rintro e w6 ⟨rfl, hb⟩
          have HT6 := Lib.hid (Kd.C_below HT.out hb)
          have HC6 := Lib.hid (Kd.C_below HC.out hb)
          have HN6 := Lib.hid ((hb.block _ (Array.getElem?_eq_some_iff.1 HN.out).1).trans HN.out)
          have HB6 : Hid (Below nb W w6) := Lib.hid (by subst hnb; exact below_next HB.out hb)
          clear hb HFI HT HC HN HB
          cases hf : findP t3 p3 with
          | some x =>
            obtain ⟨q, n0, n1, n2, n3, n4, n5, n6⟩ := x
            have hnp : nodeP t3 p3 = some (n0, n1, n2, n3, n4, n5, n6) := by unfold nodeP; rw [hf]; rfl
            have hf0 := HFF.out
            rw [hnp] at hf0
            simp only at hf0
            have hb6 := below_one w6 (.cells #[.int .i64 n0, .int .u32 n1, .int .u32 n2, .int .u32 n3, .int .i64 n4, .int .i64 n5, .string n6] 31)
            have HT7 := Lib.hid (Kd.C_below HT6.out hb6)
            have HC7 := Lib.hid (Kd.C_below HC6.out hb6)
            have HN7 := Lib.hid ((hb6.block _ (Array.getElem?_eq_some_iff.1 HN6.out).1).trans HN6.out)
            have HB7 : Hid (Below nb W (w6.alloc (.cells #[.int .i64 n0, .int .u32 n1, .int .u32 n2, .int .u32 n3, .int .i64 n4, .int .i64 n5, .string n6] 31))) := Lib.hid (by subst hnb; exact below_next HB6.out hb6)
            have c0 : (w6.alloc (.cells #[.int .i64 n0, .int .u32 n1, .int .u32 n2, .int .u32 n3, .int .i64 n4, .int .i64 n5, .string n6] 31)).cell? ⟨w6.heap.size, 0, none⟩ = some (.int .i64 n0) := by rw [cell_of (heap_new w6 _)]; rfl
            have HP := Lib.hid (fun (W7 : World) => rparent_next (w := W7) (Lib.hid (Below.refl _ _)) p3 (by omega))
            have HAD := Lib.hid (added_any rows (some ad) cr (s := p3) (w6.alloc (.cells #[.int .i64 n0, .int .u32 n1, .int .u32 n2, .int .u32 n3, .int .i64 n4, .int .i64 n5, .string n6] 31)) HC7.out)
            simp only [nodeOf, aggN, Option.isSome_some]
            clear hb6 HT6 HC6 HN6 HB6 hnp HFF hf
            by_cases g6 : n0 = 1
            · subst g6
              rw [if_neg (by simp)] at hf0
              have HF := Lib.hid hf0
              clear hf0 HAD
              go_wp2_with fail
              refine (HP.out _).mono ?_
              rintro e w8 ⟨rfl, hb⟩
              have HT8 := Lib.hid (Kd.C_below HT7.out hb.out)
              have HC8 := Lib.hid (Kd.C_below HC7.out hb.out)
              have HN8 := Lib.hid ((hb.out.block _ (Array.getElem?_eq_some_iff.1 HN7.out).1).trans HN7.out)
              have HB8 : Hid (Below nb W w8) := Lib.hid (by subst hnb; exact below_next HB7.out hb.out)
              clear hb HP HT7 HC7 HN7 HB7
              go_wp2
              go_roundw
              case rel => exact ⟨A3, c3, t3, parentT p3, rfl, rfl, by omega, by omega, HS, HT8, HC8, HN8, Lib.hid ⟨m, hm, HF.out⟩, HB8⟩
              case measure => exact hpl
            · have q6 : (n0 != 1) = true := by simpa using g6
              cases hro : (findP rows p3).isSome with
              | true =>
                rw [hro] at HAD
                rw [if_pos ⟨g6, hro⟩] at hf0
                have HR2 : Hid (fillR l (kd, mo, ui, gi, mt, at_, da) = (rows, false)) := Lib.hid (by rw [HFP.out, ← hf0]; rfl)
                clear hf0 hro g6
                go_wp2_with fail
                refine HAD.out.mono ?_
                rintro e w8 ⟨rfl, hb⟩
                have HT8 := Lib.hid (Kd.C_below HT7.out hb)
                have HC8 := Lib.hid (Kd.C_below HC7.out hb)
                have HN8 := Lib.hid ((hb.block _ (Array.getElem?_eq_some_iff.1 HN7.out).1).trans HN7.out)
                have HB8 : Hid (Below nb W w8) := Lib.hid (by subst hnb; exact below_next HB7.out hb)
                clear hb HP HAD
                go_wp2
                refine bodyPost_ret (results_tmp2 rfl _ _ _) rfl ?_
                rw [HR2.out]
                exact ⟨_, cr, rfl, HC8.out, by rw [hnb]; exact HB8.out⟩
              | false =>
                rw [hro] at HAD
                rw [if_neg (by rw [hro]; simp)] at hf0
                have HF := Lib.hid hf0
                clear hf0 hro g6
                go_wp2_with fail
                refine HAD.out.mono ?_
                rintro e w8 ⟨rfl, hb⟩
                have HT8 := Lib.hid (Kd.C_below HT7.out hb)
                have HC8 := Lib.hid (Kd.C_below HC7.out hb)
                have HN8 := Lib.hid ((hb.block _ (Array.getElem?_eq_some_iff.1 HN7.out).1).trans HN7.out)
                have HB8 : Hid (Below nb W w8) := Lib.hid (by subst hnb; exact below_next HB7.out hb)
                clear hb HAD HT7 HC7 HN7 HB7
                go_wp2_with fail
                refine (HP.out _).mono ?_
                rintro e w9 ⟨rfl, hb⟩
                have HT9 := Lib.hid (Kd.C_below HT8.out hb.out)
                have HC9 := Lib.hid (Kd.C_below HC8.out hb.out)
                have HN9 := Lib.hid ((hb.out.block _ (Array.getElem?_eq_some_iff.1 HN8.out).1).trans HN8.out)
                have HB9 : Hid (Below nb W w9) := Lib.hid (by subst hnb; exact below_next HB8.out hb.out)
                clear hb HP HT8 HC8 HN8 HB8
                go_wp2
                go_roundw
                case rel => exact ⟨A3, c3, t3, parentT p3, rfl, rfl, by omega, by omega, HS, HT9, HC9, HN9, Lib.hid ⟨m, hm, HF.out⟩, HB9⟩
                case measure => exact hpl
          | none =>
            have hnp : nodeP t3 p3 = none := by unfold nodeP; rw [hf]; rfl
            have hf0 := HFF.out
            rw [hnp] at hf0
            simp only at hf0
            have HF := Lib.hid hf0
            have hb6 := below_one w6 (.cells #[.int .i64 0, .int .u32 0, .int .u32 0, .int .u32 0, .int .i64 0, .int .i64 0, .string ByteArray.empty] 31)
            have HT7 := Lib.hid (Kd.C_below HT6.out hb6)
            have HC7 := Lib.hid (Kd.C_below HC6.out hb6)
            have HN7 := Lib.hid ((hb6.block _ (Array.getElem?_eq_some_iff.1 HN6.out).1).trans HN6.out)
            have HB7 : Hid (Below nb W (w6.alloc (.cells #[.int .i64 0, .int .u32 0, .int .u32 0, .int .u32 0, .int .i64 0, .int .i64 0, .string ByteArray.empty] 31))) := Lib.hid (by subst hnb; exact below_next HB6.out hb6)
            have HP := Lib.hid (fun (W7 : World) => rparent_next (w := W7) (Lib.hid (Below.refl _ _)) p3 (by omega))
            have HPU := Lib.hid (rput_any t3 A3 c3 p3 kd mo ui gi mt at_ da (w6.alloc (.cells #[.int .i64 0, .int .u32 0, .int .u32 0, .int .u32 0, .int .i64 0, .int .i64 0, .string ByteArray.empty] 31)) HT7.out (by omega) HS.out (by omega))
            have HS8 : Hid (∀ x ∈ putP t3 (p3, (kd, mo, ui, gi, mt, at_, da)), x.1.size ≤ 3000) := Lib.hid (putS HS.out (by show p3.size ≤ _; omega))
            have hl8 : (putP t3 (p3, (kd, mo, ui, gi, mt, at_, da))).length + (parentT p3).size ≤ 300 + (k + 1) * 3000 := by have := put_len t3 (p3, (kd, mo, ui, gi, mt, at_, da)); omega
            have k0 : (w6.alloc (.cells #[.int .i64 0, .int .u32 0, .int .u32 0, .int .u32 0, .int .i64 0, .int .i64 0, .string ByteArray.empty] 31)).cell? ⟨nb, 0, none⟩ = some (.int .i64 kd) := by rw [cell_of HN7.out]; rfl
            have k1 : (w6.alloc (.cells #[.int .i64 0, .int .u32 0, .int .u32 0, .int .u32 0, .int .i64 0, .int .i64 0, .string ByteArray.empty] 31)).cell? ⟨nb, 1, none⟩ = some (.int .u32 mo) := by rw [cell_of HN7.out]; rfl
            have k2 : (w6.alloc (.cells #[.int .i64 0, .int .u32 0, .int .u32 0, .int .u32 0, .int .i64 0, .int .i64 0, .string ByteArray.empty] 31)).cell? ⟨nb, 2, none⟩ = some (.int .u32 ui) := by rw [cell_of HN7.out]; rfl
            have k3 : (w6.alloc (.cells #[.int .i64 0, .int .u32 0, .int .u32 0, .int .u32 0, .int .i64 0, .int .i64 0, .string ByteArray.empty] 31)).cell? ⟨nb, 3, none⟩ = some (.int .u32 gi) := by rw [cell_of HN7.out]; rfl
            have k4 : (w6.alloc (.cells #[.int .i64 0, .int .u32 0, .int .u32 0, .int .u32 0, .int .i64 0, .int .i64 0, .string ByteArray.empty] 31)).cell? ⟨nb, 4, none⟩ = some (.int .i64 mt) := by rw [cell_of HN7.out]; rfl
            have k5 : (w6.alloc (.cells #[.int .i64 0, .int .u32 0, .int .u32 0, .int .u32 0, .int .i64 0, .int .i64 0, .string ByteArray.empty] 31)).cell? ⟨nb, 5, none⟩ = some (.int .i64 at_) := by rw [cell_of HN7.out]; rfl
            have k6 : (w6.alloc (.cells #[.int .i64 0, .int .u32 0, .int .u32 0, .int .u32 0, .int .i64 0, .int .i64 0, .string ByteArray.empty] 31)).cell? ⟨nb, 6, none⟩ = some (.string da) := by rw [cell_of HN7.out]; rfl
            simp only [nodeOf, aggN, z7, Option.isSome_none]
            clear hb6 HT6 HC6 HN6 HB6 hnp HFF hf hf0
            generalize putP t3 (p3, (kd, mo, ui, gi, mt, at_, da)) = t8 at *
            go_wp2_with fail
            refine HPU.out.mono ?_
            rintro e w8 ⟨v, rfl, hr, hb⟩
            obtain ⟨A8, c8, hv8, _, hT8⟩ := Kd.R_reads hr
            subst hv8
            have HT8 := Lib.hid hT8
            have HC8 := Lib.hid (Kd.C_below HC7.out hb)
            have HN8 := Lib.hid ((hb.block _ (Array.getElem?_eq_some_iff.1 HN7.out).1).trans HN7.out)
            have HB8 : Hid (Below nb W w8) := Lib.hid (by subst hnb; exact below_next HB7.out hb)
            clear hr hb hT8 HPU HT7 HC7 HN7 HB7 k0 k1 k2 k3 k4 k5 k6
            go_wp2_with fail
            refine (HP.out _).mono ?_
            rintro e w9 ⟨rfl, hb⟩
            have HT9 := Lib.hid (Kd.C_below HT8.out hb.out)
            have HC9 := Lib.hid (Kd.C_below HC8.out hb.out)
            have HN9 := Lib.hid ((hb.out.block _ (Array.getElem?_eq_some_iff.1 HN8.out).1).trans HN8.out)
            have HB9 : Hid (Below nb W w9) := Lib.hid (by subst hnb; exact below_next HB8.out hb.out)
            clear hb HP HT8 HC8 HN8 HB8
            go_wp2
            go_roundw
            case rel => exact ⟨A8, c8, t8, parentT p3, rfl, rfl, by omega, by omega, HS8, HT9, HC9, HN9, Lib.hid ⟨m, hm, HF.out⟩, HB9⟩
            case measure => exact hpl
    · have HR2 : Hid (fillR l (kd, mo, ui, gi, mt, at_, da) = (t, true)) := Lib.hid (by rw [HFP.out, ← HF.out, List.drop_of_length_le (by omega)]; rfl)
      clear HF HFP HC HN
      go_wp2
      refine bodyPost_ret (results_tmp2 rfl _ _ _) rfl ?_
      rw [HR2.out]
      exact ⟨A2, c2, rfl, HT.out, by rw [hnb]; exact HB.out⟩
end Go.Proofs.YtpjjooiamdfmfaaGreatDoor.TreeRFill
