/- tree.Fill. -/
import Derived.Test.YtibmfjacfbpfgaaGreatDoorFillA
set_option linter.unusedVariables false
set_option linter.unusedSimpArgs false
namespace Go.Proofs.YtibmfjacfbpfgaaGreatDoor.TreeFill
open Go.RowKit YtibmfjacfbpfgaaGreatDoorW.PrintWords YtibmfjacfbpfgaaGreatDoorW.PrintLast YtibmfjacfbpfgaaGreatDoorW.PrintMore YtibmfjacfbpfgaaGreatDoor.Item Own TreeLaw NameLaw NameWalk NameOrd NameRef NameUse SortSwap SortIns TreeFn TreeDel NodeRes Tree TreeRef TreeRight MapS TreeNodes TreeTright FillLaw FillKit
set_option maxHeartbeats 8000000 in
set_option maxRecDepth 100000 in
theorem fill_any (l : List It) (A : Option Addr) (c : Nat) (kd mo ui gi mt at_ : Int) (da : ByteArray) (W : World) (hg : Glob W) (hl : ItemC W A l) (hn : l.length ≤ 300) (hsz : ∀ x ∈ l, x.1.size ≤ 3000) :
  Calls Tryz.prog 44 #[.slice A l.length c, .agg #[.int .i64 kd, .int .u32 mo, .int .u32 ui, .int .u32 gi, .int .i64 mt, .int .i64 at_, .string da]] W fun e w' => ∃ A2 c2, e = .returned (.tuple #[.slice A2 (fillP l (kd, mo, ui, gi, mt, at_, da)).1.length c2, .bool (fillP l (kd, mo, ui, gi, mt, at_, da)).2]) ∧ ItemC w' A2 (fillP l (kd, mo, ui, gi, mt, at_, da)).1 ∧ Below W.heap.size W w' := by
 have hsh : Short l := fun x hx => by have := hsz x hx; omega
 have HZ : Hid (∀ x ∈ sortP l, x.1.size ≤ 3000) := Lib.hid (fun x hx => hsz x (sort_mem hx))
 have hb1 := below_one W (.cells #[.int .i64 kd, .int .u32 mo, .int .u32 ui, .int .u32 gi, .int .i64 mt, .int .i64 at_, .string da] 34)
 have HB1 := Lib.hid hb1
 have HNB := Lib.hid (heap_new W (.cells #[.int .i64 kd, .int .u32 mo, .int .u32 ui, .int .u32 gi, .int .i64 mt, .int .i64 at_, .string da] 34))
 have HSO := Lib.hid (sort_any l A c (W.alloc (.cells #[.int .i64 kd, .int .u32 mo, .int .u32 ui, .int .u32 gi, .int .i64 mt, .int .i64 at_, .string da] 34)) (hg.below hb1) (Kd.C_below hl hb1) (by omega) hsh)
 have HG := Lib.hid hg
 have hrl : (sortP l).length ≤ 300 := by rw [sort_length]; exact hn
 have HFP : Hid (fillP l (kd, mo, ui, gi, mt, at_, da) = match fillAll (sortP l) (kd, mo, ui, gi, mt, at_, da) (sortP l) (fun _ => none, sortP l) with | some s => (s.2, true) | none => (sortP l, false)) := Lib.hid rfl
 clear hb1 hg hl hsh hsz
 generalize sortP l = rows at *
 go_enter Tryz.func44, Tryz.ntmps44
 go_wp2_with fail
 generalize W.alloc (.cells #[.int .i64 kd, .int .u32 mo, .int .u32 ui, .int .u32 gi, .int .i64 mt, .int .i64 at_, .string da] 34) = U1 at *
 refine HSO.out.mono ?_
 rintro e w2 ⟨v, rfl, hr, hb2⟩
 obtain ⟨Ar, cr, hv, _, hCr⟩ := Kd.R_reads hr
 subst hv
 have HB2 : Hid (Below W.heap.size W w2) := Lib.hid (below_next_ HB1.out hb2)
 have HNO := Lib.hid (nodes_any rows Ar cr w2 hCr)
 have HAR : Hid (∀ ad, Ar = some ad → ad.block < w2.heap.size) := Lib.hid (fun ad e => Kd.R_lt hr _ (by rw [e]; rfl))
 have HBU1 := Lib.hid hb2
 clear hr HSO
 go_wp2_with fail
 refine HNO.out.mono ?_
 rintro e w3 ⟨bm, rfl, hbm, hm, hb3⟩
 have hb4 := below_one w3 (.map #[] 0)
 obtain ⟨ba, hba⟩ : ∃ ba, ba = w3.heap.size := ⟨_, rfl⟩
 have HNE : Hid (∀ ad, Ar = some ad → ad.block ≠ ba) := Lib.hid (fun ad e => by have := HAR.out ad e; have := hb3.size; omega)
 have HBN : Hid (bm ≠ ba) := Lib.hid (by have := hm.lt; omega)
 have HBU : Hid (Below W.heap.size W (w3.alloc (.map #[] 0))) := Lib.hid (below_next_ (below_next_ HB2.out hb3) hb4)
 have HWA : Hid (W.heap.size ≤ ba) := Lib.hid (by have := HB2.out.size; have := hb3.size; omega)
 have HNBU : Hid ((w3.alloc (.map #[] 0)).heap[W.heap.size]? = some (.cells #[.int .i64 kd, .int .u32 mo, .int .u32 ui, .int .u32 gi, .int .i64 mt, .int .i64 at_, .string da] 34)) := Lib.hid ((hb4.block _ (by have := HB2.out.size; have := hb3.size; have := (Array.getElem?_eq_some_iff.1 HNB.out).1; have := HBU1.out.size; omega)).trans ((hb3.block _ (by have := (Array.getElem?_eq_some_iff.1 HNB.out).1; have := HBU1.out.size; omega)).trans ((HBU1.out.block _ (Array.getElem?_eq_some_iff.1 HNB.out).1).trans HNB.out)))
 have HUA : Hid (ba < (w3.alloc (.map #[] 0)).heap.size) := Lib.hid (by rw [hba]; simp)
 have HMU := Lib.hid (hm.below hb4)
 have HAU := Lib.hid (MapF.made (fun b => Value.bool b) w3)
 have HCU : Hid (ItemC (w3.alloc (.map #[] 0)) Ar rows) := Lib.hid (Kd.C_below (Kd.C_below hCr hb3) hb4)
 rw [← hba] at HAU
 have HNA : Hid (W.heap.size ≠ ba) := Lib.hid (by have := (Array.getElem?_eq_some_iff.1 HNB.out).1; have := HBU1.out.size; have := hb3.size; omega)
 clear hCr hb2 hb3 hm hb4 HNO HB2
 go_wp2_with (rw [show (Instr.makeMap 127 none).run Tryz.prog w3 = .ok (.map (some w3.heap.size)) (w3.alloc (.map #[] 0)) from rfl])
 generalize w3.alloc (.map #[] 0) = U at *
 rw [← hba]
 have HNU : Hid (U.heap[W.heap.size]? = some (.cells #[.int .i64 kd, .int .u32 mo, .int .u32 ui, .int .u32 gi, .int .i64 mt, .int .i64 at_, .string da] 34)) := HNBU
 generalize hnb : W.heap.size = nb at *
 obtain ⟨R, hR⟩ : ∃ R, R = fillAll rows (kd, mo, ui, gi, mt, at_, da) rows (fun _ => none, rows) := ⟨_, rfl⟩
 rw [← hR] at HFP
 have HR0 : Hid (fillAll rows (kd, mo, ui, gi, mt, at_, da) (rows.drop 0) (fun _ => none, rows) = R) := Lib.hid hR.symm
 clear hR hba HNB HAR HBU1
 have hl2 := HCU.out.2.1
 have HSR : Hid (Short rows) := Lib.hid (fun x hx => by have := HZ.out x hx; omega)
 go_wp2
 go_loopw [7, 23] (fun v7 v23 wr => ∃ (k : Nat) (A2 : Option Addr) (c2 : Nat) (t : List It) (f : ByteArray → Option Bool), k ≤ rows.length ∧ v23 = .int .i64 k ∧ v7 = .slice A2 t.length c2 ∧ t.length ≤ 300 + k * 3000 ∧ Hid (Short t) ∧ Hid (ItemC wr A2 t) ∧ Hid (∀ ad, A2 = some ad → ad.block ≠ ba) ∧ Hid (MapF aggN wr bm (nodeP rows)) ∧ Hid (MapF (fun b => Value.bool b) wr ba f) ∧ Hid (ItemC wr Ar rows) ∧ Hid (wr.heap[nb]? = some (.cells #[.int .i64 kd, .int .u32 mo, .int .u32 ui, .int .u32 gi, .int .i64 mt, .int .i64 at_, .string da] 34)) ∧ Hid (fillAll rows (kd, mo, ui, gi, mt, at_, da) (rows.drop k) (f, t) = R) ∧ Hid (Below nb W wr) ∧ Hid (ba < wr.heap.size)) (fun _ v _ => rows.length - (intOf v).toNat)
 case atStart => exact ⟨0, Ar, cr, rows, fun _ => none, by omega, rfl, rfl, by omega, HSR, HCU, HNE, HMU, HAU, HCU, HNU, HR0, HBU, HUA⟩
 case round =>
  clear HCU HMU HAU HNU HR0 HBU HUA HNBU
  obtain ⟨k, A2, c2, t, f, hk, rfl, rfl, htl, HS, HT, HTN, HM, HA, HC, HN, HF, HB, HUB⟩ := hrel
  by_cases hlt : k < rows.length
  ·
   obtain ⟨ad, rfl, e0, e1, e2, e3, e4, e5, e6, e7⟩ := item_at HC.out hlt
   have hltI : (k : Int) < rows.length := by omega
   have hm := HZ.out _ (List.getElem_mem hlt)
   have hf := HF.out
   rw [List.drop_eq_getElem_cons hlt] at hf
   clear HF
   generalize rows[k] = x at *
   obtain ⟨x0, x1, x2, x3, x4, x5, x6, x7⟩ := x
   have HSX : Hid (x0.size ≤ 3000) := Lib.hid hm
   have HF := Lib.hid hf
   clear hf hm
   simp only at e0 e1 e2 e3 e4 e5 e6 e7
   have c0 : (wr.alloc (.cells #[.string x0, .int .i64 x1, .int .u32 x2, .int .u32 x3, .int .u32 x4, .int .i64 x5, .int .i64 x6, .string x7] 77)).cell? ⟨wr.heap.size, 0, none⟩ = some (.string x0) := by rw [cell_of (heap_new wr _)]; rfl
   have c1 : (wr.alloc (.cells #[.string x0, .int .i64 x1, .int .u32 x2, .int .u32 x3, .int .u32 x4, .int .i64 x5, .int .i64 x6, .string x7] 77)).cell? ⟨wr.heap.size, 1, none⟩ = some (.int .i64 x1) := by rw [cell_of (heap_new wr _)]; rfl
   have c2 : (wr.alloc (.cells #[.string x0, .int .i64 x1, .int .u32 x2, .int .u32 x3, .int .u32 x4, .int .i64 x5, .int .i64 x6, .string x7] 77)).cell? ⟨wr.heap.size, 2, none⟩ = some (.int .u32 x2) := by rw [cell_of (heap_new wr _)]; rfl
   have c3 : (wr.alloc (.cells #[.string x0, .int .i64 x1, .int .u32 x2, .int .u32 x3, .int .u32 x4, .int .i64 x5, .int .i64 x6, .string x7] 77)).cell? ⟨wr.heap.size, 3, none⟩ = some (.int .u32 x3) := by rw [cell_of (heap_new wr _)]; rfl
   have c4 : (wr.alloc (.cells #[.string x0, .int .i64 x1, .int .u32 x2, .int .u32 x3, .int .u32 x4, .int .i64 x5, .int .i64 x6, .string x7] 77)).cell? ⟨wr.heap.size, 4, none⟩ = some (.int .u32 x4) := by rw [cell_of (heap_new wr _)]; rfl
   have c5 : (wr.alloc (.cells #[.string x0, .int .i64 x1, .int .u32 x2, .int .u32 x3, .int .u32 x4, .int .i64 x5, .int .i64 x6, .string x7] 77)).cell? ⟨wr.heap.size, 5, none⟩ = some (.int .i64 x5) := by rw [cell_of (heap_new wr _)]; rfl
   have c6 : (wr.alloc (.cells #[.string x0, .int .i64 x1, .int .u32 x2, .int .u32 x3, .int .u32 x4, .int .i64 x5, .int .i64 x6, .string x7] 77)).cell? ⟨wr.heap.size, 6, none⟩ = some (.int .i64 x6) := by rw [cell_of (heap_new wr _)]; rfl
   have c7 : (wr.alloc (.cells #[.string x0, .int .i64 x1, .int .u32 x2, .int .u32 x3, .int .u32 x4, .int .i64 x5, .int .i64 x6, .string x7] 77)).cell? ⟨wr.heap.size, 7, none⟩ = some (.string x7) := by rw [cell_of (heap_new wr _)]; rfl
   have hb2 := below_one wr (.cells #[.string x0, .int .i64 x1, .int .u32 x2, .int .u32 x3, .int .u32 x4, .int .i64 x5, .int .i64 x6, .string x7] 77)
   have HT2 := Lib.hid (Kd.C_below HT.out hb2)
   have HC2 := Lib.hid (Kd.C_below HC.out hb2)
   have HM2 := Lib.hid (HM.out.below hb2)
   have HA2 := Lib.hid (HA.out.below hb2)
   have HN2 := Lib.hid ((hb2.block _ (Array.getElem?_eq_some_iff.1 HN.out).1).trans HN.out)
   have HB2 : Hid (Below nb W (wr.alloc (.cells #[.string x0, .int .i64 x1, .int .u32 x2, .int .u32 x3, .int .u32 x4, .int .i64 x5, .int .i64 x6, .string x7] 77))) := Lib.hid (by subst hnb; exact below_next_ HB.out hb2)
   have HUB2 : Hid (ba < (wr.alloc (.cells #[.string x0, .int .i64 x1, .int .u32 x2, .int .u32 x3, .int .u32 x4, .int .i64 x5, .int .i64 x6, .string x7] 77)).heap.size) := Lib.hid (Nat.lt_of_lt_of_le HUB.out hb2.size)
   have HPA := Lib.hid (parent_next (w := (wr.alloc (.cells #[.string x0, .int .i64 x1, .int .u32 x2, .int .u32 x3, .int .u32 x4, .int .i64 x5, .int .i64 x6, .string x7] 77))) (Lib.hid (Below.refl _ _)) x0 (by have := HSX.out; omega))
   clear hb2 HT HC HM HA HN HB HUB
   go_wp2_with fail
   generalize hW4 : wr.alloc (.cells #[.string x0, .int .i64 x1, .int .u32 x2, .int .u32 x3, .int .u32 x4, .int .i64 x5, .int .i64 x6, .string x7] 77) = W4 at *
   refine HPA.out.mono ?_
   rintro e w5 ⟨rfl, hb5⟩
   have HT5 := Lib.hid (Kd.C_below HT2.out hb5.out)
   have HC5 := Lib.hid (Kd.C_below HC2.out hb5.out)
   have HM5 := Lib.hid (HM2.out.below hb5.out)
   have HA5 := Lib.hid (HA2.out.below hb5.out)
   have HN5 := Lib.hid ((hb5.out.block _ (Array.getElem?_eq_some_iff.1 HN2.out).1).trans HN2.out)
   have HB5 : Hid (Below nb W w5) := Lib.hid (by subst hnb; exact below_next_ HB2.out hb5.out)
   have HUB5 : Hid (ba < w5.heap.size) := Lib.hid (Nat.lt_of_lt_of_le HUB2.out hb5.out.size)
   have HF5 : Hid (∃ n, (parentT x0).size ≤ n ∧ (fillUp rows (kd, mo, ui, gi, mt, at_, da) n (parentT x0) (f, t)).bind (fillAll rows (kd, mo, ui, gi, mt, at_, da) (rows.drop (k + 1))) = R) := Lib.hid ⟨x0.size, parent_le x0, HF.out⟩
   have hps : t.length + (parentT x0).size ≤ 300 + (k + 1) * 3000 := by have := parent_le x0; have := HSX.out; omega
   have hp0 : (parentT x0).size ≤ 3000 := by have := parent_le x0; have := HSX.out; omega
   clear HT2 HC2 HM2 HA2 HN2 HB2 HUB2 HF HPA hb5 hW4 HSX htl e0 c0 e1 c1 e2 c2 e3 c3 e4 c4 e5 c5 e6 c6 e7 c7
   generalize parentT x0 = p0 at *
   go_wp2
   go_loopw [7, 12] (fun v7 v12 wi => ∃ (A3 : Option Addr) (c3 : Nat) (t3 : List It) (f3 : ByteArray → Option Bool) (p3 : ByteArray), v12 = .string p3 ∧ v7 = .slice A3 t3.length c3 ∧ p3.size ≤ 3000 ∧ t3.length + p3.size ≤ 300 + (k + 1) * 3000 ∧ Hid (Short t3) ∧ Hid (ItemC wi A3 t3) ∧ Hid (∀ ad, A3 = some ad → ad.block ≠ ba) ∧ Hid (MapF aggN wi bm (nodeP rows)) ∧ Hid (MapF (fun b => Value.bool b) wi ba f3) ∧ Hid (ItemC wi (some ad) rows) ∧ Hid (wi.heap[nb]? = some (.cells #[.int .i64 kd, .int .u32 mo, .int .u32 ui, .int .u32 gi, .int .i64 mt, .int .i64 at_, .string da] 34)) ∧ Hid (∃ n, p3.size ≤ n ∧ (fillUp rows (kd, mo, ui, gi, mt, at_, da) n p3 (f3, t3)).bind (fillAll rows (kd, mo, ui, gi, mt, at_, da) (rows.drop (k + 1))) = R) ∧ Hid (Below nb W wi) ∧ Hid (ba < wi.heap.size)) (fun _ v _ => (match v with | .string q => q.size | _ => 0))
   case atStart => exact ⟨A2, c2, t, f, p0, rfl, rfl, hp0, hps, HS, HT5, HTN, HM5, HA5, HC5, HN5, HF5, HB5, HUB5⟩
   case round =>
    clear HT5 HM5 HA5 HC5 HN5 HF5 HB5 HUB5 HTN hps hp0 HS
    obtain ⟨A3, c3, t3, f3, p3, rfl, rfl, hp3, hb3, HS, HT, HTN, HM, HA, HC, HN, HF, HB, HUB⟩ := hrel
    by_cases g7 : p3.data.toList = []
    ·
     have q7 := emp_t g7
     have q8 := emq_t g7
     have HF2 : Hid (fillAll rows (kd, mo, ui, gi, mt, at_, da) (rows.drop (k + 1)) (f3, t3) = R) := Lib.hid (by
      obtain ⟨n, _, e⟩ := HF.out
      cases n with
      | zero => exact e
      | succ n => unfold fillUp at e; rw [if_pos g7] at e; exact e)
     have hl3 : t3.length ≤ 300 + (k + 1) * 3000 := by omega
     clear HF g7 hb3
     go_wp2
     go_roundw
     case rel => exact ⟨k + 1, A3, c3, t3, f3, by omega, by go_num, rfl, hl3, HS, HT, HTN, HM, HA, HC, HN, HF2, HB, HUB⟩
     case measure => simp [intOf]; omega
    ·
     have q7 := emp_f g7
     have q8 := emq_f g7
     obtain ⟨m, hm, hf0⟩ : ∃ m, (parentT p3).size ≤ m ∧ (match nodeP rows p3 with | some x => if x.1 = 1 then fillUp rows (kd, mo, ui, gi, mt, at_, da) m (parentT p3) (f3, t3) else none | none => fillUp rows (kd, mo, ui, gi, mt, at_, da) m (parentT p3) (addS (kd, mo, ui, gi, mt, at_, da) p3 (f3, t3))).bind (fillAll rows (kd, mo, ui, gi, mt, at_, da) (rows.drop (k + 1))) = R := by
      obtain ⟨n, hn, e⟩ := HF.out
      have hlt := parent_lt g7
      cases n with
      | zero => omega
      | succ n => unfold fillUp at e; rw [if_neg g7] at e; exact ⟨n, by omega, e⟩
     have hpl := parent_lt g7
     clear HF
     cases hf : nodeP rows p3 with
     | some x =>
      obtain ⟨n0, n1, n2, n3, n4, n5, n6⟩ := x
      rw [hf] at hf0
      simp only at hf0
      have hq : (Instr.lookup 125 (.map (some bm)) (.string p3) true).run Tryz.prog wr = .ok (.tuple #[.agg #[.int .i64 n0, .int .u32 n1, .int .u32 n2, .int .u32 n3, .int .i64 n4, .int .i64 n5, .string n6], .bool true]) wr := by
       have := HM.out.ask (t := 125) (kT := 9) (eT := 34) (by kernel_rfl) (by kernel_rfl) (zeroN _) p3 true
       rw [hf] at this
       exact this
      have hb6 := below_one wr (.cells #[.int .i64 n0, .int .u32 n1, .int .u32 n2, .int .u32 n3, .int .i64 n4, .int .i64 n5, .string n6] 34)
      have HT6 := Lib.hid (Kd.C_below HT.out hb6)
      have HC6 := Lib.hid (Kd.C_below HC.out hb6)
      have HM6 := Lib.hid (HM.out.below hb6)
      have HA6 := Lib.hid (HA.out.below hb6)
      have HN6 := Lib.hid ((hb6.block _ (Array.getElem?_eq_some_iff.1 HN.out).1).trans HN.out)
      have HB6 : Hid (Below nb W (wr.alloc (.cells #[.int .i64 n0, .int .u32 n1, .int .u32 n2, .int .u32 n3, .int .i64 n4, .int .i64 n5, .string n6] 34))) := Lib.hid (by subst hnb; exact below_next_ HB.out hb6)
      have HUB6 : Hid (ba < (wr.alloc (.cells #[.int .i64 n0, .int .u32 n1, .int .u32 n2, .int .u32 n3, .int .i64 n4, .int .i64 n5, .string n6] 34)).heap.size) := Lib.hid (Nat.lt_of_lt_of_le HUB.out hb6.size)
      clear HT HC HM HA HN HB HUB
      have HP := Lib.hid (parent_next (w := (wr.alloc (.cells #[.int .i64 n0, .int .u32 n1, .int .u32 n2, .int .u32 n3, .int .i64 n4, .int .i64 n5, .string n6] 34))) (Lib.hid (Below.refl _ _)) p3 (by omega))
      by_cases g6 : n0 = 1
      ·
       subst g6
       rw [if_pos rfl] at hf0
       have HF := Lib.hid hf0
       clear hf0 hf hb6 g7
       go_wp2_with fail
       refine HP.out.mono ?_
       rintro e w7 ⟨rfl, hb7⟩
       have HT7 := Lib.hid (Kd.C_below HT6.out hb7.out)
       have HC7 := Lib.hid (Kd.C_below HC6.out hb7.out)
       have HM7 := Lib.hid (HM6.out.below hb7.out)
       have HA7 := Lib.hid (HA6.out.below hb7.out)
       have HN7 := Lib.hid ((hb7.out.block _ (Array.getElem?_eq_some_iff.1 HN6.out).1).trans HN6.out)
       have HB7 : Hid (Below nb W w7) := Lib.hid (by subst hnb; exact below_next_ HB6.out hb7.out)
       have HUB7 : Hid (ba < w7.heap.size) := Lib.hid (Nat.lt_of_lt_of_le HUB6.out hb7.out.size)
       clear HT6 HC6 HM6 HA6 HN6 HB6 HUB6
       clear HP hb7
       go_wp2
       go_roundw
       case rel => exact ⟨A3, c3, t3, f3, parentT p3, rfl, rfl, by omega, by omega, HS, HT7, HTN, HM7, HA7, HC7, HN7, Lib.hid ⟨m, hm, HF.out⟩, HB7, HUB7⟩
       case measure => exact hpl
      ·
       have q6 : (n0 == 1) = false := by simpa using g6
       rw [if_neg g6] at hf0
       have HR2 : Hid (fillP l (kd, mo, ui, gi, mt, at_, da) = (rows, false)) := Lib.hid (by rw [HFP.out, ← hf0]; rfl)
       clear hf0 hf hb6 g7 HT6 HM6 HA6 HN6 HP
       go_wp2
       refine bodyPost_ret (results_tmp2 rfl _ _ _) rfl ?_
       rw [HR2.out]
       exact ⟨_, cr, rfl, HC6.out, by rw [hnb]; exact HB6.out⟩
     | none =>
      rw [hf] at hf0
      simp only at hf0
      have hq : (Instr.lookup 125 (.map (some bm)) (.string p3) true).run Tryz.prog wr = .ok (.tuple #[.agg #[.int .i64 0, .int .u32 0, .int .u32 0, .int .u32 0, .int .i64 0, .int .i64 0, .string ByteArray.empty], .bool false]) wr := by
       have := HM.out.ask (t := 125) (kT := 9) (eT := 34) (by kernel_rfl) (by kernel_rfl) (zeroN _) p3 true
       rw [hf] at this
       exact this
      have hb6 := below_one wr (.cells #[.int .i64 0, .int .u32 0, .int .u32 0, .int .u32 0, .int .i64 0, .int .i64 0, .string ByteArray.empty] 34)
      have HT6 := Lib.hid (Kd.C_below HT.out hb6)
      have HC6 := Lib.hid (Kd.C_below HC.out hb6)
      have HM6 := Lib.hid (HM.out.below hb6)
      have HA6 := Lib.hid (HA.out.below hb6)
      have HN6 := Lib.hid ((hb6.block _ (Array.getElem?_eq_some_iff.1 HN.out).1).trans HN.out)
      have HB6 : Hid (Below nb W (wr.alloc (.cells #[.int .i64 0, .int .u32 0, .int .u32 0, .int .u32 0, .int .i64 0, .int .i64 0, .string ByteArray.empty] 34))) := Lib.hid (by subst hnb; exact below_next_ HB.out hb6)
      have HUB6 : Hid (ba < (wr.alloc (.cells #[.int .i64 0, .int .u32 0, .int .u32 0, .int .u32 0, .int .i64 0, .int .i64 0, .string ByteArray.empty] 34)).heap.size) := Lib.hid (Nat.lt_of_lt_of_le HUB.out hb6.size)
      clear HT HC HM HA HN HB HUB
      have hq2 : (Instr.lookup 127 (.map (some ba)) (.string p3) false).run Tryz.prog (wr.alloc (.cells #[.int .i64 0, .int .u32 0, .int .u32 0, .int .u32 0, .int .i64 0, .int .i64 0, .string ByteArray.empty] 34)) = .ok (.bool ((f3 p3).getD false)) (wr.alloc (.cells #[.int .i64 0, .int .u32 0, .int .u32 0, .int .u32 0, .int .i64 0, .int .i64 0, .string ByteArray.empty] 34)) := by
       have := HA6.out.ask (P := Tryz.prog) (t := 127) (kT := 9) (eT := 4) (z := .bool false) (by kernel_rfl) (by kernel_rfl) (by kernel_rfl) p3 false
       rw [this]
       cases f3 p3 <;> rfl
      have HP := Lib.hid (parent_next (w := (wr.alloc (.cells #[.int .i64 0, .int .u32 0, .int .u32 0, .int .u32 0, .int .i64 0, .int .i64 0, .string ByteArray.empty] 34))) (Lib.hid (Below.refl _ _)) p3 (by omega))
      clear hb6 hf g7
      cases hb9 : (f3 p3).getD false with
      | true =>
       rw [hb9] at hq2
       have hs0 : addS (kd, mo, ui, gi, mt, at_, da) p3 (f3, t3) = (f3, t3) := by unfold addS; rw [if_pos hb9]
       rw [hs0] at hf0
       have HF := Lib.hid hf0
       clear hf0 hs0 hb9
       go_wp2_with fail
       refine HP.out.mono ?_
       rintro e w7 ⟨rfl, hb7⟩
       have HT7 := Lib.hid (Kd.C_below HT6.out hb7.out)
       have HC7 := Lib.hid (Kd.C_below HC6.out hb7.out)
       have HM7 := Lib.hid (HM6.out.below hb7.out)
       have HA7 := Lib.hid (HA6.out.below hb7.out)
       have HN7 := Lib.hid ((hb7.out.block _ (Array.getElem?_eq_some_iff.1 HN6.out).1).trans HN6.out)
       have HB7 : Hid (Below nb W w7) := Lib.hid (by subst hnb; exact below_next_ HB6.out hb7.out)
       have HUB7 : Hid (ba < w7.heap.size) := Lib.hid (Nat.lt_of_lt_of_le HUB6.out hb7.out.size)
       clear HT6 HC6 HM6 HA6 HN6 HB6 HUB6
       clear HP hb7
       go_wp2
       go_roundw
       case rel => exact ⟨A3, c3, t3, f3, parentT p3, rfl, rfl, by omega, by omega, HS, HT7, HTN, HM7, HA7, HC7, HN7, Lib.hid ⟨m, hm, HF.out⟩, HB7, HUB7⟩
       case measure => exact hpl
      | false =>
       rw [hb9] at hq2
       have hs0 : addS (kd, mo, ui, gi, mt, at_, da) p3 (f3, t3) = (fun q => if q = p3 then some true else f3 q, putP t3 (p3, kd, mo, ui, gi, mt, at_, da)) := by unfold addS; rw [if_neg (by rw [hb9]; simp)]
       rw [hs0] at hf0
       have HF := Lib.hid hf0
       obtain ⟨w7, h7, hm7, hg7⟩ := HA6.out.store (P := Tryz.prog) (t := 127) (kT := 9) (eT := 4) (by kernel_rfl) (by kernel_rfl) p3 true
       have h8 : (Instr.mapUpdate 127 (.map (some ba)) (.string p3) (.bool true)).run Tryz.prog (wr.alloc (.cells #[.int .i64 0, .int .u32 0, .int .u32 0, .int .u32 0, .int .i64 0, .int .i64 0, .string ByteArray.empty] 34)) = .ok () w7 := h7
       have HT7 := Lib.hid (item_grown HT6.out hg7 HTN.out)
       have HC7 := Lib.hid (item_grown HC6.out hg7 HNE.out)
       have HM7 := Lib.hid (HM6.out.grown hg7 (by intro e; injection e with e; exact HBN.out e))
       have HA7 := Lib.hid hm7
       have HN7 := Lib.hid ((hg7.block _ (Array.getElem?_eq_some_iff.1 HN6.out).1 (by intro e; injection e with e; exact HNA.out e)).trans HN6.out)
       have HB7 : Hid (Below nb W w7) := Lib.hid (by subst hnb; exact below_row HB6.out hg7 HWA.out)
       have HUB7 : Hid (ba < w7.heap.size) := Lib.hid hm7.lt
       have HP := Lib.hid (put_any t3 A3 c3 p3 kd mo ui gi mt at_ da w7 (HG.out.below (by rw [hnb]; exact HB7.out)) HT7.out (by omega) HS.out (by omega))
       have k0 : w7.cell? ⟨nb, 0, none⟩ = some (.int .i64 kd) := by rw [cell_of HN7.out]; rfl
       have k1 : w7.cell? ⟨nb, 1, none⟩ = some (.int .u32 mo) := by rw [cell_of HN7.out]; rfl
       have k2 : w7.cell? ⟨nb, 2, none⟩ = some (.int .u32 ui) := by rw [cell_of HN7.out]; rfl
       have k3 : w7.cell? ⟨nb, 3, none⟩ = some (.int .u32 gi) := by rw [cell_of HN7.out]; rfl
       have k4 : w7.cell? ⟨nb, 4, none⟩ = some (.int .i64 mt) := by rw [cell_of HN7.out]; rfl
       have k5 : w7.cell? ⟨nb, 5, none⟩ = some (.int .i64 at_) := by rw [cell_of HN7.out]; rfl
       have k6 : w7.cell? ⟨nb, 6, none⟩ = some (.string da) := by rw [cell_of HN7.out]; rfl
       clear hf0 hs0 hb9 HT6 HC6 HM6 HA6 HN6 HB6 HUB6 HT7 hm7 hg7 h7
       go_wp2_with fail
       refine HP.out.mono ?_
       rintro e w8 ⟨v, rfl, hr, hb8⟩
       obtain ⟨A8, c8, hv8, _, hT8⟩ := Kd.R_reads hr
       subst hv8
       have HTN8 : Hid (∀ ad, A8 = some ad → ad.block ≠ ba) := Lib.hid (fun ad e => by have := Kd.R_base hr _ (by rw [e]; rfl); have := HUB7.out; omega)
       have HT8 := Lib.hid hT8
       have HC8 := Lib.hid (Kd.C_below HC7.out hb8)
       have HM8 := Lib.hid (HM7.out.below hb8)
       have HA8 := Lib.hid (HA7.out.below hb8)
       have HN8 := Lib.hid ((hb8.block _ (Array.getElem?_eq_some_iff.1 HN7.out).1).trans HN7.out)
       have HB8 : Hid (Below nb W w8) := Lib.hid (by subst hnb; exact below_next_ HB7.out hb8)
       have HUB8 : Hid (ba < w8.heap.size) := Lib.hid (Nat.lt_of_lt_of_le HUB7.out hb8.size)
       have HS8 : Hid (Short (putP t3 (p3, kd, mo, ui, gi, mt, at_, da))) := Lib.hid (put_short HS.out (by show p3.size < _; omega))
       have hl8 : (putP t3 (p3, kd, mo, ui, gi, mt, at_, da)).length + (parentT p3).size ≤ 300 + (k + 1) * 3000 := by have := put_len t3 (p3, kd, mo, ui, gi, mt, at_, da); omega
       have HPP := Lib.hid (parent_next (w := w8) (Lib.hid (Below.refl _ _)) p3 (by omega))
       clear hr hb8 hT8 HP HC7 HM7 HA7 HN7 HB7 HUB7 k0 k1 k2 k3 k4 k5 k6 h8 hq hq2 HTN HS
       generalize putP t3 (p3, kd, mo, ui, gi, mt, at_, da) = t8 at *
       go_wp2_with fail
       refine HPP.out.mono ?_
       rintro e w9 ⟨rfl, hb9⟩
       have HT9 := Lib.hid (Kd.C_below HT8.out hb9.out)
       have HC9 := Lib.hid (Kd.C_below HC8.out hb9.out)
       have HM9 := Lib.hid (HM8.out.below hb9.out)
       have HA9 := Lib.hid (HA8.out.below hb9.out)
       have HN9 := Lib.hid ((hb9.out.block _ (Array.getElem?_eq_some_iff.1 HN8.out).1).trans HN8.out)
       have HB9 : Hid (Below nb W w9) := Lib.hid (by subst hnb; exact below_next_ HB8.out hb9.out)
       have HUB9 : Hid (ba < w9.heap.size) := Lib.hid (Nat.lt_of_lt_of_le HUB8.out hb9.out.size)
       clear HT8 HC8 HM8 HA8 HN8 HB8 HUB8 HPP hb9
       go_wp2
       go_roundw
       case rel => exact ⟨A8, c8, t8, _, parentT p3, rfl, rfl, by omega, by omega, HS8, HT9, HTN8, HM9, HA9, HC9, HN9, Lib.hid ⟨m, hm, HF.out⟩, HB9, HUB9⟩
       case measure => exact hpl
  ·
   have HR2 : Hid (fillP l (kd, mo, ui, gi, mt, at_, da) = (t, true)) := Lib.hid (by rw [HFP.out, ← HF.out, List.drop_of_length_le (by omega)]; rfl)
   clear HF HFP HTN HM HA HC HN HUB
   go_wp2
   refine bodyPost_ret (results_tmp2 rfl _ _ _) rfl ?_
   rw [HR2.out]
   exact ⟨A2, c2, rfl, HT.out, by rw [hnb]; exact HB.out⟩
end Go.Proofs.YtibmfjacfbpfgaaGreatDoor.TreeFill
