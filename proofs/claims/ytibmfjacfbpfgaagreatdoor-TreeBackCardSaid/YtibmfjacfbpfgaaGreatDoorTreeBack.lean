/- TreeBack, walked: whatever the items, the law answers true. -/
import Derived.Test.YtibmfjacfbpfgaaGreatDoorBackLaw
import Derived.Test.YtibmfjacfbpfgaaGreatDoorTreeDiff
import Derived.Test.YtibmfjacfbpfgaaGreatDoorTreeAwake
import Derived.Test.YtibmfjacfbpfgaaGreatDoorItemArgU
set_option linter.unusedVariables false
set_option linter.unusedSimpArgs false
namespace Go.Proofs.YtibmfjacfbpfgaaGreatDoor.TreeBack
open Go.RowKit Go.ChangeShapes Go.WideShapes YtibmfjacfbpfgaaGreatDoorW.PrintWords YtibmfjacfbpfgaaGreatDoorW.PrintLast YtibmfjacfbpfgaaGreatDoorW.PrintMore YtibmfjacfbpfgaaGreatDoor.Item Own TreeLaw NameLaw NameWalk NameOrd NameRef NameUse SortIns NodeRes TreeRight TreeNodes FillLaw TreeFill RealLaw OpLaw OpKeep DkLaw DiffLaw TreeDiff DSmall DState DLay BackLaw
theorem few_spec {l : List It} (h : fewP l = true) : l.length ≤ 60 ∧ ∀ x ∈ l, x.1.size ≤ 1000 ∧ x.2.2.2.2.2.2.2.size ≤ 5000 := by
 unfold fewP at h
 rw [List.all_eq_true] at h
 have h1 : ∀ x ∈ l, l.length ≤ 60 ∧ x.1.size ≤ 1000 ∧ x.2.2.2.2.2.2.2.size ≤ 5000 := by
  intro x hx
  have h2 := h x hx
  simp [okI] at h2
  exact ⟨h2.1.1, h2.1.2, h2.2⟩
 refine ⟨?_, fun x hx => (h1 x hx).2⟩
 cases l with
 | nil => simp
 | cons x t => exact (h1 x (by simp)).1
theorem right_spec {t : List It} (h : right16 t = true) : RightP t ∧ ∀ x ∈ t, x.2.1 = 1 → x.2.2.2.2.2.2.2.size = 0 := by
 unfold right16 rightB at h
 rw [Bool.and_eq_true, List.all_eq_true] at h
 refine ⟨@of_decide_eq_true _ (Classical.propDecidable _) h.2, fun x hx hk => ?_⟩
 have := h.1 x hx
 unfold noDirData at this
 simp [hk] at this
 rw [this]
 rfl
theorem same_refl (l : List It) (A : Option Addr) (c : Nat) (B : Option Addr) (d : Nat) (w : World) (hl : ItemC w A l) (hm : ItemC w B l) :
  Calls Tryz.prog 18 #[.slice A l.length c, .slice B l.length d] w fun e w' => e = .returned (.bool true) ∧ Below w.heap.size w w' := by
 have h := same_any l l A c B d w hl hm
 rw [decide_eq_true (rfl : l = l)] at h
 exact h
theorem back_lay (w0 w : World) (hg : Glob w0) (t : List It) (A : Option Addr) (c : Nat) (hT : ItemC w0 A t) (hr : right16 t = true) (hm : ∀ x ∈ t, masked x.2.2.1 = x.2.2.1) (hf : t.length ≤ 60 ∧ ∀ x ∈ t, x.1.size ≤ 1000 ∧ x.2.2.2.2.2.2.2.size ≤ 5000) (hd : DkAt w w0.heap.size w0.heap.size (.slice none 0 0) (.slice none 0 0) (.slice none 0 0) ⟨[], [], 1073741824, -1, 0, false, 0⟩) (hb : Below w0.heap.size w0 w) :
  Calls Tryz.prog 39 #[.pointer (some ⟨w0.heap.size, 0, none⟩), .string ⟨#[]⟩, .slice A t.length c] w fun e w' => e = .returned (.int .i64 0) ∧ ∃ v1 v2 v3 d, Prog w0 w' w0.heap.size v1 v2 v3 d 60 ∧ d.shows = t ∧ Below w0.heap.size w0 w' := by
 obtain ⟨h1, h2⟩ := right_spec hr
 obtain ⟨dk, e1, e2⟩ := lay_back h1 h2 hm (fun x hx => (hf.2 x hx).2) (by omega)
 have hP : Prog w0 w w0.heap.size (.slice none 0 0) (.slice none 0 0) (.slice none 0 0) ⟨[], [], 1073741824, -1, 0, false, 0⟩ 0 := ⟨hg, hb, hd, fun k => by
  show RightP (([] : List Chg).take k |>.foldl doneP [])
  rw [List.take_nil]
  intro j x hx
  simp at hx, ⟨Nat.le_refl _, ⟨by decide, by decide⟩, by decide, by decide, (fun x hx => by cases hx), (fun c hc => by cases hc)⟩⟩
 have := lay_top w0 w _ _ _ _ _ 0 hP t A c hT (by omega) (fun x hx => ⟨(hf.2 x hx).1, by have := (hf.2 x hx).2; omega⟩)
 rw [e1] at this
 refine this.mono ?_
 rintro e w' ⟨rfl, v1, v2, v3, h3, h4⟩
 exact ⟨rfl, v1, v2, v3, dk, prog_mono h3 (by omega), e2, h3.low⟩
set_option maxHeartbeats 16000000 in
set_option maxRecDepth 100000 in
theorem back_any (t : List It) (A : Option Addr) (c : Nat) (W : World) (hg : Glob W) (ht : ItemC W A t) (hrange : ∀ x ∈ t, 0 ≤ x.2.2.1 ∧ x.2.2.1 < 4294967296) :
  Calls Tryz.prog 7 #[.slice A t.length c] W fun e w' => e = .returned (.bool true) ∧ Below W.heap.size W w' := by
 have HG := Lib.hid hg
 have HT := Lib.hid ht
 have HRG := Lib.hid hrange
 have HAW := Lib.hid (TreeAwake.awake_any W hg)
 have hlm := ht.2.1
 clear hg ht hrange
 go_enter Tryz.func7, Tryz.ntmps7
 go_wp2_with fail
 refine HAW.out.mono ?_
 rintro e w1 ⟨rfl, hb1⟩
 have HB1 := Lib.hid hb1
 clear hb1 HAW
 have HF := Lib.hid (few_any t A c w1 (Kd.C_below HT.out HB1.out))
 have HS := Lib.hid (fun h => few_spec (l := t) h)
 generalize fewP t = f1 at *
 go_wp2_with fail
 refine HF.out.mono ?_
 rintro e w2 ⟨rfl, hb2⟩
 have HB2 := Lib.hid (below_next HB1.out hb2)
 clear hb2 HF HB1
 cases f1 with
 | false =>
  go_wp2
  go_ret
  exact ⟨rfl, HB2.out⟩
 | true =>
  have hf := HS.out rfl
  have HF := Lib.hid hf
  have hl := hf.1
  have HR := Lib.hid (rright16_any t A c w2 (Kd.C_below HT.out HB2.out) (by omega) (fun x hx => by have := (HF.out.2 x hx).1; omega))
  have HRS := Lib.hid (fun (h : right16 t = true) => h)
  obtain ⟨r, hr⟩ : ∃ r, r = right16 t := ⟨_, rfl⟩
  rw [← hr] at HR
  have HRR := Lib.hid hr
  clear hr HS hf HRS
  go_wp2_with fail
  refine HR.out.mono ?_
  rintro e w3 ⟨rfl, hb3⟩
  have HB3 := Lib.hid (below_next HB2.out hb3)
  clear hb3 HR HB2
  cases r with
  | false =>
   go_wp2
   go_ret
   exact ⟨rfl, HB3.out⟩
  | true =>
   have HK0 : Hid (∀ j (hj : j < t.length), j < 0 → t[j].2.2.1 < 4096) := Lib.hid (fun j hj h => absurd h (Nat.not_lt_zero _))
   go_wp2
   go_loopw [23] (fun i wr => ∃ k : Nat, k ≤ t.length ∧ i = .int .i64 k ∧ Hid (∀ j (hj : j < t.length), j < k → t[j].2.2.1 < 4096) ∧ Hid (Below W.heap.size W wr)) (fun i _ => t.length - (intOf i).toNat)
   case atStart => exact ⟨0, Nat.zero_le _, rfl, HK0, HB3⟩
   case round =>
    clear HK0
    obtain ⟨k, hk, rfl, HK, HB⟩ := hrel
    by_cases hlt : k < t.length
    ·
     obtain ⟨ad, rfl, e0, e1, e2, e3, e4, e5, e6, e7⟩ := item_at (Kd.C_below HT.out HB.out) hlt
     have hltI : (k : Int) < t.length := by omega
     have HX : Hid (∃ x, x = t[k]) := Lib.hid ⟨_, rfl⟩
     obtain ⟨x, hx⟩ : ∃ x, x = t[k] := ⟨_, rfl⟩
     rw [← hx] at e0 e1 e2 e3 e4 e5 e6 e7
     have HXK := Lib.hid hx
     clear hx HX
     obtain ⟨x0, x1, x2, x3, x4, x5, x6, x7⟩ := x
     simp only at e0 e1 e2 e3 e4 e5 e6 e7
     have hb5 := below_one wr (.cells #[.string x0, .int .i64 x1, .int .u32 x2, .int .u32 x3, .int .u32 x4, .int .i64 x5, .int .i64 x6, .string x7] 77)
     have HB5 := Lib.hid (below_next HB.out hb5)
     have n2 : (wr.alloc (.cells #[.string x0, .int .i64 x1, .int .u32 x2, .int .u32 x3, .int .u32 x4, .int .i64 x5, .int .i64 x6, .string x7] 77)).cell? ⟨wr.heap.size, 2, none⟩ = some (.int .u32 x2) := by rw [cell_of (heap_new wr _)]; rfl
     clear hb5 HB
     by_cases h4 : 4096 ≤ x2
     ·
      have q0 : decide (4096 ≤ x2) = true := decide_eq_true h4
      go_wp2
      go_ret
      exact ⟨rfl, HB5.out⟩
     ·
      have q0 : decide (4096 ≤ x2) = false := decide_eq_false h4
      have HK1 : Hid (∀ j (hj : j < t.length), j < k + 1 → t[j].2.2.1 < 4096) := Lib.hid (fun j hj h => by
       rcases Nat.lt_or_ge j k with h2 | h2
       ·
        exact HK.out j hj h2
       ·
        have : j = k := by omega
        subst this
        rw [← HXK.out]; simp only; omega)
      clear HXK HK
      go_wp2
      go_roundw
      case rel => exact ⟨k + 1, by omega, by go_num, HK1, HB5⟩
      case measure => simp [intOf]; omega
    ·
     have hj2 : ¬ (k : Int) < (t.length : Int) := by omega
     have HM : Hid (∀ x ∈ t, masked x.2.2.1 = x.2.2.1) := Lib.hid (fun x hx => by
      have h1 := HRG.out x hx
      obtain ⟨j, hj, rfl⟩ := List.mem_iff_getElem.1 hx
      have h2 := HK.out j hj (by omega)
      unfold masked
      omega)
     clear HK HRG
     have HNW := Lib.hid (new_any 1073741824 wr)
     go_wp2_with fail
     refine HNW.out.mono ?_
     rintro e w4 ⟨rfl, hd4, hb4⟩
     have HLY := Lib.hid (back_lay wr w4 (HG.out.below HB.out) t A c (Kd.C_below HT.out HB.out) HRR.out.symm HM.out HF.out hd4 hb4)
     clear hd4 hb4 HNW HM
     go_wp2_with fail
     refine HLY.out.mono ?_
     rintro e w5 ⟨rfl, v1, v2, v3, dk, hp5, hs5, hb5⟩
     have HRD := read_top wr w5 wr.heap.size v1 v2 v3 dk 60 hp5 (by decide)
     rw [hs5] at HRD
     replace HRD := Lib.hid HRD
     have HB6 := Lib.hid (below_next HB.out hb5)
     clear hp5 hs5 hb5 HLY HB
     generalize wr.heap.size = bd at *
     go_wp2_with fail
     refine HRD.out.mono ?_
     rintro e w7 ⟨v7, rfl, hr7, hb7⟩
     obtain ⟨A7, c7, hv7, _, hC7⟩ := Kd.R_reads hr7
     subst hv7
     have HB7 := Lib.hid (below_next HB6.out hb7)
     have HC7 := Lib.hid hC7
     clear hr7 hb7 hC7 HRD HB6
     have HFL := fill_any t A c 1 0 0 0 0 0 ⟨#[]⟩ w7 (HG.out.below HB7.out) (Kd.C_below HT.out HB7.out) (by omega) (fun x hx => by have := (HF.out.2 x hx).1; omega)
     rw [fill_self (right_spec HRR.out.symm).1] at HFL
     replace HFL := Lib.hid HFL
     go_wp2_with fail
     refine HFL.out.mono ?_
     rintro e w8 ⟨A8, c8, rfl, hC8, hb8⟩
     have HB8 := Lib.hid (below_next HB7.out hb8)
     have HC8 := Lib.hid hC8
     have HC78 := Lib.hid (Kd.C_below HC7.out hb8)
     clear hC8 hb8 HFL HB7 HC7
     have HSA := Lib.hid (same_refl t A c A7 c7 w8 (Kd.C_below HT.out HB8.out) HC78.out)
     go_wp2_with fail
     refine HSA.out.mono ?_
     rintro e w9 ⟨rfl, hb9⟩
     have HB9 := Lib.hid (below_next HB8.out hb9)
     have HC89 := Lib.hid (Kd.C_below HC8.out hb9)
     have HC79 := Lib.hid (Kd.C_below HC78.out hb9)
     clear hb9 HSA HB8 HC8 HC78
     have HSB := Lib.hid (same_refl t A8 c8 A c w9 HC89.out (Kd.C_below HT.out HB9.out))
     go_wp2_with fail
     refine HSB.out.mono ?_
     rintro e w10 ⟨rfl, hb10⟩
     have HB10 := Lib.hid (below_next HB9.out hb10)
     have HC710 := Lib.hid (Kd.C_below HC79.out hb10)
     clear hb10 HSB HB9 HC79 HC89
     have HDF := tdiffer_any t t A c A7 c7 w10 (HG.out.below HB10.out) (Kd.C_below HT.out HB10.out) HC710.out (by omega) (by omega) (fun x hx => by have := (HF.out.2 x hx).1; omega) (fun x hx => by have := (HF.out.2 x hx).1; omega)
     rw [dif_self] at HDF
     replace HDF := Lib.hid HDF
     go_wp2_with fail
     refine HDF.out.mono ?_
     rintro e w11 ⟨v11, rfl, hr11, hb11⟩
     obtain ⟨A11, c11, hv11⟩ := Kd.R_slice hr11
     subst hv11
     have HB11 := Lib.hid (below_next HB10.out hb11)
     clear hr11 hb11 HDF HB10
     go_wp2
     go_ret
     exact ⟨rfl, HB11.out⟩
set_option maxRecDepth 100000 in
theorem walk (v0 : Value) (W : World) {H : Type} {enc : TypeId × Value → H} {b0 : Nat} {d0 : DataW H} {p0 : List MemPlace}
  (k0 : Value.okWide Tryz.prog W .any b0 41 v0) (h0 : DataW.Trod enc Tryz.prog W 0 (fun _ => true) true 41 v0 d0 p0) (hg : Glob W) :
  Calls Tryz.prog 7 #[v0] W fun e w' => e = .returned (.bool true) ∧ Below W.heap.size W w' := by
 obtain ⟨A, c, l, rfl, hl, hr⟩ := ItemArgU.open_items_cap k0 h0
 exact back_any l A c W hg hl hr
end Go.Proofs.YtibmfjacfbpfgaaGreatDoor.TreeBack
