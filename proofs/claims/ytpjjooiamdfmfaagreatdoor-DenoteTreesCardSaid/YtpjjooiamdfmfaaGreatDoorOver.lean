/- denote.Override: one list over another one. -/
import Derived.Test.YtpjjooiamdfmfaaGreatDoorOverLaw
import Derived.Test.YtpjjooiamdfmfaaGreatDoorMapS
import Derived.Test.YtpjjooiamdfmfaaGreatDoorTree
set_option linter.unusedVariables false
set_option linter.unusedSimpArgs false
namespace Go.Proofs.YtpjjooiamdfmfaaGreatDoor.Over
open Go.RowKit Go.Proofs.YtpjjooiamdfmfaaGreatDoorW.PrintWords Go.Proofs.YtpjjooiamdfmfaaGreatDoorW.PrintLast Go.Proofs.YtpjjooiamdfmfaaGreatDoorW.PrintMore Go.Proofs.YtpjjooiamdfmfaaGreatDoor.Item Go.Proofs.YtpjjooiamdfmfaaGreatDoor.Own Go.Proofs.YtpjjooiamdfmfaaGreatDoor.MapS Go.Proofs.YtpjjooiamdfmfaaGreatDoor.TreeLaw Go.Proofs.YtpjjooiamdfmfaaGreatDoor.NameLaw Go.Proofs.YtpjjooiamdfmfaaGreatDoor.NameWalk Go.Proofs.YtpjjooiamdfmfaaGreatDoor.NameOrd Go.Proofs.YtpjjooiamdfmfaaGreatDoor.NameRef Go.Proofs.YtpjjooiamdfmfaaGreatDoor.NameUse Go.Proofs.YtpjjooiamdfmfaaGreatDoor.SortIns Go.Proofs.YtpjjooiamdfmfaaGreatDoor.TreeFn Go.Proofs.YtpjjooiamdfmfaaGreatDoor.TreeDel Go.Proofs.YtpjjooiamdfmfaaGreatDoor.NodeRes Go.Proofs.YtpjjooiamdfmfaaGreatDoor.Tree Go.Proofs.YtpjjooiamdfmfaaGreatDoor.OverLaw

theorem k_to_m {W w : World} {base : Nat} {ok : Nat → Prop} : ∀ (x : It) cs, itemK.K w x cs → itemK.M W base ok x cs := fun x cs h => by
  have := itemK_K h
  subst this
  exact itemK_M _ _ _ _
/-- Which paths are there. -/
def seenF (u : List It) (p : ByteArray) : Option Bool := if u.any (fun y => decide (p = y.1)) then some true else none
theorem seen_get (u : List It) (x : It) : (seenF u x.1).getD false = inP u x := by
  unfold seenF inP
  cases u.any (fun y => decide (x.1 = y.1)) <;> rfl
theorem seen_more {u : List It} {k : Nat} (h : k < u.length) (p : ByteArray) : (if p = u[k].1 then some true else seenF (u.take k) p) = seenF (u.take (k + 1)) p := by
  rw [List.take_succ_eq_append_getElem h]
  unfold seenF
  rw [List.any_append]
  by_cases e : p = u[k].1
  · rw [if_pos e]; simp [e]
  · rw [if_neg e, List.any_cons, decide_eq_false e, List.any_nil, Bool.or_false, Bool.or_false]
set_option maxHeartbeats 2000000 in
theorem over1_any (x0 : ByteArray) (x1 x2 x3 x4 x5 x6 : Int) (x7 : ByteArray) (u : List It) (bc bm : Nat) (W : World) (hc : W.cell? ⟨bc, 0, none⟩ = some (.map (some bm))) (hm : MapF (fun b => Value.bool b) W bm (seenF u)) :
    Calls Tryz.prog 45 #[.agg #[.string x0, .int .i64 x1, .int .u32 x2, .int .u32 x3, .int .u32 x4, .int .i64 x5, .int .i64 x6, .string x7], .pointer (some ⟨bc, 0, none⟩)] W fun e w' => e = .returned (.bool (inP u (x0, x1, x2, x3, x4, x5, x6, x7))) ∧ Below W.heap.size W w' := by
  have hb1 := below_one W (.cells #[.string x0, .int .i64 x1, .int .u32 x2, .int .u32 x3, .int .u32 x4, .int .i64 x5, .int .i64 x6, .string x7] 33)
  have HB := Lib.hid hb1
  have c0 : (W.alloc (.cells #[.string x0, .int .i64 x1, .int .u32 x2, .int .u32 x3, .int .u32 x4, .int .i64 x5, .int .i64 x6, .string x7] 33)).cell? ⟨W.heap.size, 0, none⟩ = some (.string x0) := by rw [cell_of (heap_new W _)]; rfl
  have c1 : (W.alloc (.cells #[.string x0, .int .i64 x1, .int .u32 x2, .int .u32 x3, .int .u32 x4, .int .i64 x5, .int .i64 x6, .string x7] 33)).cell? ⟨bc, 0, none⟩ = some (.map (some bm)) := pw_cell_below hb1 hc
  have hq : (Instr.lookup 62 (.map (some bm)) (.string x0) false).run Tryz.prog (W.alloc (.cells #[.string x0, .int .i64 x1, .int .u32 x2, .int .u32 x3, .int .u32 x4, .int .i64 x5, .int .i64 x6, .string x7] 33)) = .ok (.bool (inP u (x0, x1, x2, x3, x4, x5, x6, x7))) (W.alloc (.cells #[.string x0, .int .i64 x1, .int .u32 x2, .int .u32 x3, .int .u32 x4, .int .i64 x5, .int .i64 x6, .string x7] 33)) := by
    have := (hm.below hb1).ask (P := Tryz.prog) (t := 62) (kT := 9) (eT := 4) (z := .bool false) (by kernel_rfl) (by kernel_rfl) (by kernel_rfl) x0 false
    rw [this, ← seen_get]
    cases seenF u x0 <;> rfl
  clear hb1 hm hc
  generalize inP u (x0, x1, x2, x3, x4, x5, x6, x7) = R at *
  go_enter Tryz.func45, Tryz.ntmps45
  go_wp2
  go_ret
  exact ⟨rfl, HB.out⟩
theorem asks_over (u : List It) (bc bm : Nat) (l : List It) (U : World) (hc : U.cell? ⟨bc, 0, none⟩ = some (.map (some bm))) (hm : MapF (fun b => Value.bool b) U bm (seenF u)) : Asks U 45 bc (inP u) l :=
  ⟨enters_of Tryz.func45 (by kernel_rfl) rfl, fun x0 x1 x2 x3 x4 x5 x6 x7 _ W hW => over1_any x0 x1 x2 x3 x4 x5 x6 x7 u bc bm W (pw_cell_below hW hc) (hm.below hW)⟩
set_option maxHeartbeats 8000000 in
set_option maxRecDepth 100000 in
theorem over_any (t u : List It) (A : Option Addr) (c : Nat) (B : Option Addr) (d : Nat) (W : World) (hg : Glob W) (ht : ItemC W A t) (hu : ItemC W B u) (hn : t.length ≤ 1000) (hm : u.length ≤ 1000) (hs : Short t) (hs2 : Short u) :
    Calls Tryz.prog 12 #[.slice A t.length c, .slice B u.length d] W fun e w' => ∃ v, e = .returned v ∧ itemK.R 33 w' W.heap.size (fun _ => True) v (overP t u) ∧ Below W.heap.size W w' := by
  have hb1 := below_one W (.map #[] 0)
  have hb2 := below_one (W.alloc (.map #[] 0)) (.cells #[.map (some W.heap.size)] 62)
  have HB := Lib.hid (below_next_ hb1 hb2)
  have HM := Lib.hid ((MapF.made (fun b => Value.bool b) W).below hb2)
  have hc := heap_new (W.alloc (.map #[] 0)) (.cells #[.map (some W.heap.size)] 62)
  rw [show (W.alloc (.map #[] 0)).heap.size = W.heap.size + 1 by simp] at hc
  have HC := Lib.hid hc
  have HT := Lib.hid ht
  have HU := Lib.hid hu
  have HG := Lib.hid hg
  have HS := Lib.hid hs
  have HS2 := Lib.hid hs2
  clear hb1 hb2 hc ht hu hg hs hs2
  go_enter Tryz.func12, Tryz.ntmps12
  go_wp2_with (rw [show (Instr.makeMap 62 none).run Tryz.prog W = .ok (.map (some W.heap.size)) (W.alloc (.map #[] 0)) from rfl])
  generalize (W.alloc (.map #[] 0)).alloc (.cells #[.map (some W.heap.size)] 62) = U at *
  generalize hbm : W.heap.size = bm at *
  have HM0 : Hid (MapF (fun b => Value.bool b) U bm (seenF (u.take 0))) := HM
  have hl2 := HU.out.2.1
  clear HM
  go_loopw [12] (fun v wr => ∃ k : Nat, k ≤ u.length ∧ v = .int .i64 k ∧ Hid (MapF (fun b => Value.bool b) wr bm (seenF (u.take k))) ∧ Hid (wr.heap[bm + 1]? = some (.cells #[.map (some bm)] 62)) ∧ Hid (Below bm W wr) ) (fun v _ => u.length - (intOf v).toNat)
  case atStart => exact ⟨0, by omega, rfl, HM0, HC, HB⟩
  case round =>
    clear HM0 HC HB
    obtain ⟨k, hk, rfl, HM, HC, HB⟩ := hrel
    by_cases hlt : k < u.length
    · obtain ⟨ad, rfl, e0, e1, e2, e3, e4, e5, e6, e7⟩ := item_at (Kd.C_below HU.out (by rw [hbm]; exact HB.out)) hlt
      have hltI : (k : Int) < u.length := by omega
      have HN := Lib.hid (seen_more (u := u) (k := k) hlt)
      generalize u[k] = x at *
      obtain ⟨x0, x1, x2, x3, x4, x5, x6, x7⟩ := x
      simp only at e0 e1 e2 e3 e4 e5 e6 e7
      have hb2 := below_one wr (.cells #[.string x0, .int .i64 x1, .int .u32 x2, .int .u32 x3, .int .u32 x4, .int .i64 x5, .int .i64 x6, .string x7] 33)
      have HM2 := Lib.hid (HM.out.below hb2)
      have HC2 := Lib.hid ((hb2.block _ (Array.getElem?_eq_some_iff.1 HC.out).1).trans HC.out)
      have HB2 : Hid (Below bm W (wr.alloc (.cells #[.string x0, .int .i64 x1, .int .u32 x2, .int .u32 x3, .int .u32 x4, .int .i64 x5, .int .i64 x6, .string x7] 33))) := Lib.hid (by subst hbm; exact below_next_ HB.out hb2)
      have c0 : (wr.alloc (.cells #[.string x0, .int .i64 x1, .int .u32 x2, .int .u32 x3, .int .u32 x4, .int .i64 x5, .int .i64 x6, .string x7] 33)).cell? ⟨wr.heap.size, 0, none⟩ = some (.string x0) := by rw [cell_of (heap_new wr _)]; rfl
      have c1 : (wr.alloc (.cells #[.string x0, .int .i64 x1, .int .u32 x2, .int .u32 x3, .int .u32 x4, .int .i64 x5, .int .i64 x6, .string x7] 33)).cell? ⟨bm + 1, 0, none⟩ = some (.map (some bm)) := by rw [cell_of HC2.out]; rfl
      obtain ⟨w5, h5, hm5, hg5⟩ := HM2.out.store (P := Tryz.prog) (t := 62) (kT := 9) (eT := 4) (by kernel_rfl) (by kernel_rfl) x0 true
      have h6 : (Instr.mapUpdate 62 (.map (some bm)) (.string x0) (.bool true)).run Tryz.prog (wr.alloc (.cells #[.string x0, .int .i64 x1, .int .u32 x2, .int .u32 x3, .int .u32 x4, .int .i64 x5, .int .i64 x6, .string x7] 33)) = .ok () w5 := h5
      have HM5 := Lib.hid (hm5.congr HN.out)
      have HC5 := Lib.hid ((hg5.block _ (Array.getElem?_eq_some_iff.1 HC2.out).1 (by intro e; injection e with e; omega)).trans HC2.out)
      have HB5 : Hid (Below bm W w5) := Lib.hid (by subst hbm; exact below_row HB2.out hg5 (Nat.le_refl _))
      clear hb2 HM HC HB HM2 HC2 HB2 hm5 hg5 h5 HN
      go_wp2
      go_roundw
      case rel => exact ⟨k + 1, by omega, by go_num, HM5, HC5, HB5⟩
      case measure => simp [intOf]; omega
    · have HM2 : Hid (MapF (fun b => Value.bool b) wr bm (seenF u)) := Lib.hid (by have := HM.out; rw [List.take_of_length_le (by omega)] at this; exact this)
      clear HM
      have HCL := Lib.hid (clone_any t A c wr (Kd.C_below HT.out (by rw [hbm]; exact HB.out)) (by omega))
      go_wp2_with fail
      refine HCL.out.mono ?_
      rintro e w2 ⟨v, rfl, hr, hb2⟩
      obtain ⟨A2, c2, hv⟩ := Kd.R_slice hr
      have HD := Lib.hid (delete_any wr 45 (bm + 1) (inP u) t v w2 (by omega) hb2 hr (asks_over u (bm + 1) bm t wr (by rw [cell_of HC.out]; rfl) HM2.out))
      subst hv
      clear hr hb2 HCL
      go_wp2_with fail
      refine HD.out.mono ?_
      rintro e w3 ⟨v3, rfl, hr3, hb3⟩
      obtain ⟨A3, c3, hv3, hc3, hC3⟩ := Kd.R_reads hr3
      subst hv3
      have hfl : (t.filter (fun x => !inP u x)).length ≤ t.length := List.length_filter_le _ _
      have HR3 : Hid (itemK.R 33 w3 wr.heap.size (fun _ => True) (.slice A3 (restP t u).length c3) (restP t u)) := Lib.hid hr3
      have HB3 := Lib.hid hb3
      have HU3 := Lib.hid (Kd.C_below (Kd.C_below HU.out (by rw [hbm]; exact HB.out)) (show Below wr.heap.size wr w3 from hb3))
      have HST : Hid (Short (restP t u ++ u)) := Lib.hid (fun x hx => by
        rcases List.mem_append.1 hx with e | e
        · exact HS.out x (List.mem_filter.1 e).1
        · exact HS2.out x e)
      have hrl : (restP t u).length ≤ 1000 := by unfold restP; omega
      have HE : Hid (overP t u = sortP (restP t u ++ u)) := Lib.hid rfl
      have e0 : (t.filter (fun x => !inP u x)).length = (restP t u).length := rfl
      rw [e0]
      clear hr3 hC3 hb3 HD HM2 HC hfl e0
      generalize restP t u = rr at *
      go_wp2_with ((with_reducible refine gate_builtin (b := .append) (xs := #[.tmp 24, .tmp 25]) rfl ?_); at_builtin; refine Kd.R_append_rows itemK (Rr := itemK.K w3) (w0 := wr) wr.heap.size rfl (.tmp 24) (.tmp 25) 22 33 (.agg #[.string ByteArray.empty, .int .i64 0, .int .u32 0, .int .u32 0, .int .u32 0, .int .i64 0, .int .i64 0, .string ByteArray.empty]) 72 rfl Tryz.underlying22 infoItem rfl (by decide) (by decide) (.slice A3 rr.length c3) rr u B u.length d (fun _ => True) (fun _ => False) rfl rfl ?aO ?aR ?aK (fun _ hk => hk.elim) ?aF ?aB ?aS ?aL ?_; skip)
      case aO => exact HR3.out
      case aR => exact HU3.out
      case aK => exact k_to_m
      case aF => exact (fun _ _ => trivial)
      case aB => exact HB3.out
      case aS => exact HB3.out.size
      case aL => omega
      intro va w5 ho hb5 hg5 hat5
      obtain ⟨A5, c5, hv5, hc5, hC5⟩ := Kd.R_reads ho
      subst hv5
      have HB5 : Hid (Below bm W w5) := Lib.hid (by subst hbm; exact below_next_ HB.out hb5)
      have HSO := Lib.hid (sort_any (rr ++ u) A5 c5 w5 (HG.out.below (by rw [hbm]; exact HB5.out)) hC5 (by rw [List.length_append]; omega) HST.out)
      rw [List.length_append] at HSO
      clear ho hb5 hg5 hat5 hC5
      go_wp2_with fail
      refine HSO.out.mono ?_
      rintro e w6 ⟨v6, rfl, hr6, hb6⟩
      have HR6 := Lib.hid (Kd.R_lower hr6 (show bm ≤ w5.heap.size from by have := HB5.out.size; omega))
      have HB6 : Hid (Below bm W w6) := Lib.hid (by subst hbm; exact below_next_ HB5.out hb6)
      clear hr6 hb6 HSO
      go_wp2
      go_ret
      exact ⟨_, rfl, by rw [HE.out, hbm]; exact HR6.out, by rw [hbm]; exact HB6.out⟩
end Go.Proofs.YtpjjooiamdfmfaaGreatDoor.Over
