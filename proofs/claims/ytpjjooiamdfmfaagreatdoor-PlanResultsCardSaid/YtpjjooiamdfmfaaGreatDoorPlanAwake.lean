/- law 24's example: the actions of one file that no archive has. -/
import Derived.Test.YtpjjooiamdfmfaaGreatDoorPlanRes
import Derived.Test.YtpjjooiamdfmfaaGreatDoorMapS
import Derived.Test.YtpjjooiamdfmfaaGreatDoorOver
import Derived.Test.YtpjjooiamdfmfaaGreatDoorOdds
set_option linter.unusedVariables false
set_option linter.unusedSimpArgs false
namespace Go.Proofs.YtpjjooiamdfmfaaGreatDoor.PlanAwake
open Go.RowKit Go.Proofs.YtpjjooiamdfmfaaGreatDoorW.PrintWords Go.Proofs.YtpjjooiamdfmfaaGreatDoorW.PrintLast Go.Proofs.YtpjjooiamdfmfaaGreatDoorW.PrintMore Go.Proofs.YtpjjooiamdfmfaaGreatDoor.Item Go.Proofs.YtpjjooiamdfmfaaGreatDoor.Own Go.Proofs.YtpjjooiamdfmfaaGreatDoor.PlanAct Go.Proofs.YtpjjooiamdfmfaaGreatDoor.PlanRes Go.Proofs.YtpjjooiamdfmfaaGreatDoor.MapS Go.Proofs.YtpjjooiamdfmfaaGreatDoor.NameLaw Go.Proofs.YtpjjooiamdfmfaaGreatDoor.NameWalk Go.Proofs.YtpjjooiamdfmfaaGreatDoor.NameUse Go.Proofs.YtpjjooiamdfmfaaGreatDoor.TreeLaw Go.Proofs.YtpjjooiamdfmfaaGreatDoor.OverLaw Go.Proofs.YtpjjooiamdfmfaaGreatDoor.Over Go.Proofs.YtpjjooiamdfmfaaGreatDoor.Odds Go.Proofs.YtpjjooiamdfmfaaGreatDoor.SortIns

abbrev sA : ByteArray := ⟨#[97]⟩
abbrev iA : It := (sA, 2, 0, 0, 0, 0, 0, ByteArray.empty)
abbrev aA : Ac := (4, -1, 0)
abbrev aggF : Value := .agg #[.slice none 0 0, .slice none 0 0]
theorem item_one {W : World} {b : Nat} {x : It} {fr : Nat × Nat} (h : W.heap[b]? = some (.cells (cellsI x).toArray 33 fr)) : ItemC W (some ⟨b, 0, none⟩) [x] :=
  ⟨rfl, by simp, fun _ => ⟨_, rfl, fun j p hj => by
    cases j with
    | succ j => simp at hj
    | zero =>
      have : x = p := by simpa using hj
      subst this
      exact ⟨cellsI x, rfl, itemK_mk _ _, fun i u hu => by
        rw [Addr.add_lit, cell_of h]
        simpa using hu⟩⟩⟩
theorem ne_cells {α : Type} {enc : α → Value} {w : World} {b c : Nat} {f : ByteArray → Option α} {cs : Array Value} {t : TypeId} {fr : Nat × Nat} (h : MapF enc w b f) (hc : w.heap[c]? = some (.cells cs t fr)) : c ≠ b := by
  obtain ⟨es, clock, m, hb, _⟩ := h
  intro e
  rw [e, hb] at hc
  cases hc
theorem ne_own {α β : Type} {d : Kd β} {e base : Nat} {ok : Nat → Prop} {v : Value} {xs : List β} {enc : α → Value} {w : World} {b : Nat} {f : ByteArray → Option α} (h : MapF enc w b f) (hr : d.R e w base ok v xs) : some b ≠ v.ownBlock := by
  intro e1
  obtain ⟨_, _, _, q, _, cs, hc⟩ := (Kd.R_bound hr).1 b e1.symm
  exact ne_cells h hc rfl
/-! ### nothing matches -/
theorem idx0 (fv : Value) (w : World) : Calls Tryz.prog 266 #[.slice none 0 0, fv] w fun e w' => e = .returned (.int .i64 (-1)) ∧ Below w.heap.size w w' := by
  go_enter Tryz.func266, Tryz.ntmps266
  go_wp2
  refine wp_loop_rounds 1 ?_
  rw [rounds_succ]
  go_wp2
  go_ret
  exact ⟨rfl, Below.refl _ _⟩
theorem cont0 (fv : Value) (w : World) : Calls Tryz.prog 242 #[.slice none 0 0, fv] w fun e w' => e = .returned (.bool false) ∧ Below w.heap.size w w' := by
  go_enter Tryz.func242, Tryz.ntmps242
  go_wp2_with fail
  refine (idx0 fv w).mono ?_
  rintro e w1 ⟨rfl, hb⟩
  have HB := Lib.hid hb
  clear hb
  go_wp2
  go_ret
  exact ⟨rfl, HB.out⟩
theorem any0 (s : ByteArray) (w : World) : Calls Tryz.prog 203 #[.slice none 0 0, .string s] w fun e w' => e = .returned (.bool false) ∧ Below w.heap.size w w' := by
  have HB1 := Lib.hid (below_one w (.cells #[.string s] 9))
  go_enter Tryz.func203, Tryz.ntmps203
  go_wp2_with fail
  refine (cont0 _ _).mono ?_
  rintro e w1 ⟨rfl, hb⟩
  have HB := Lib.hid (below_next HB1.out hb)
  clear hb
  go_wp2
  go_ret
  exact ⟨rfl, HB.out⟩
theorem hits0 (s : ByteArray) (w : World) : Calls Tryz.prog 151 #[.slice none 0 0, .string s, .bool false] w fun e w' => e = .returned (.bool false) ∧ Below w.heap.size w w' := by
  go_enter Tryz.func151, Tryz.ntmps151
  go_wp2_with fail
  refine (any0 s w).mono ?_
  rintro e w1 ⟨rfl, hb⟩
  have HB := Lib.hid hb
  clear hb
  go_wp2
  go_ret
  exact ⟨rfl, HB.out⟩
theorem takes0 (s : ByteArray) (w : World) : Calls Tryz.prog 99 #[aggF, .string s, .bool false] w fun e w' => e = .returned (.bool true) ∧ Below w.heap.size w w' := by
  have HB1 := Lib.hid (below_one w (.cells #[.slice none 0 0, .slice none 0 0] 80))
  go_enter Tryz.func99, Tryz.ntmps99
  go_wp2_with fail
  refine (hits0 s _).mono ?_
  rintro e w1 ⟨rfl, hb⟩
  have HB := Lib.hid (below_next HB1.out hb)
  clear hb
  go_wp2
  go_ret
  exact ⟨rfl, HB.out⟩
/-! ### an archive of nothing -/
theorem paths0 (w : World) : Calls Tryz.prog 96 #[.slice none 0 0] w fun e w' => e = .returned (.tuple #[.slice none 0 0, .int .i64 0]) ∧ Below w.heap.size w w' := by
  have HB1 := Lib.hid (below_one w (.map #[] 0))
  go_enter Tryz.func96, Tryz.ntmps96
  go_wp2_with (rw [show (Instr.makeMap 62 none).run Tryz.prog w = .ok (.map (some w.heap.size)) (w.alloc (.map #[] 0)) from rfl])
  refine wp_loop_rounds 1 ?_
  rw [rounds_succ]
  go_wp2
  refine bodyPost_ret (results_tmp2 rfl _ _ _) rfl ?_
  exact ⟨rfl, HB1.out⟩
theorem match0 (b : Nat) (w : World) (hi : w.heap[b]? = some (.cells #[.string ⟨#[97]⟩, .int .i64 2, .int .u32 0, .int .u32 0, .int .u32 0, .int .i64 0, .int .i64 0, .string ByteArray.empty] 33 (0, 0))) : Calls Tryz.prog 97 #[.slice none 0 0, .slice (some ⟨b, 0, none⟩) 1 1] w fun e w' => e = .returned (.tuple #[.slice none 0 0, .int .i64 0]) ∧ Below w.heap.size w w' := by
  have HI := Lib.hid hi
  clear hi
  go_enter Tryz.func97, Tryz.ntmps97
  go_wp2_with fail
  refine (paths0 w).mono ?_
  rintro e w1 ⟨rfl, hb⟩
  have HB1 := Lib.hid (below_next hb (below_one w1 (.map #[] 0)))
  have HM := Lib.hid (MapF.made (fun i : Int => Value.int .i64 i) w1)
  have HI1 := Lib.hid (((below_one w1 (.map #[] 0)).block b (Array.getElem?_eq_some_iff.1 ((hb.block b (Array.getElem?_eq_some_iff.1 HI.out).1).trans HI.out)).1).trans ((hb.block b (Array.getElem?_eq_some_iff.1 HI.out).1).trans HI.out))
  have c0 : (w1.alloc (.map #[] 0)).cell? ⟨b, 0, none⟩ = some (.string sA) := by rw [cell_of HI1.out]; rfl
  obtain ⟨w2, h2, hm2, hg2⟩ := HM.out.store (P := Tryz.prog) (t := 187) (kT := 9) (eT := 3) (by kernel_rfl) (by kernel_rfl) sA (0 : Int)
  have h3 : (Instr.mapUpdate 187 (.map (some w1.heap.size)) (.string sA) (.int .i64 0)).run Tryz.prog (w1.alloc (.map #[] 0)) = .ok () w2 := h2
  have HB2 := Lib.hid (below_row HB1.out hg2 hb.size)
  clear hb h2 hm2 hg2 HM
  go_wp2_with (rw [show (Instr.makeMap 187 none).run Tryz.prog w1 = .ok (.map (some w1.heap.size)) (w1.alloc (.map #[] 0)) from rfl])
  refine wp_loop_rounds 2 ?_
  rw [rounds_succ]
  go_wp2
  rw [rounds_succ]
  go_wp2
  refine wp_loop_rounds 1 ?_
  rw [rounds_succ]
  go_wp2
  refine bodyPost_ret (results_tmp2 rfl _ _ _) rfl ?_
  exact ⟨rfl, HB2.out⟩
/-! ### what is there then -/
set_option maxHeartbeats 8000000 in
set_option maxRecDepth 100000 in
theorem after_adds (t : List It) (l : List Ac) (A : Option Addr) (c : Nat) (C : Option Addr) (e : Nat) (W : World) (hl : ActC W A l) (ht : ItemC W C t) (hn : l.length ≤ 1000) (hk : ∀ x ∈ l, x.1 = 4 ∧ 0 ≤ x.2.2 ∧ x.2.2 < t.length) :
    Calls Tryz.prog 101 #[.slice A l.length c, .slice none 0 0, .slice C t.length e] W fun e w' => ∃ v, e = .returned v ∧ itemK.R 33 w' W.heap.size (fun _ => True) v (resP [] t l) ∧ Below W.heap.size W w' := by
  have HL := Lib.hid hl
  have HT := Lib.hid ht
  have HK := Lib.hid hk
  have hl1 := hl.2.1
  have hl3 := ht.2.1
  clear hl ht hk
  obtain ⟨R, hR⟩ : ∃ R, R = resP [] t l := ⟨_, rfl⟩
  have HR0 : Hid ([] ++ resP [] t (l.drop 0) = R) := Lib.hid hR.symm
  rw [← hR]
  clear hR
  go_enter Tryz.func101, Tryz.ntmps101
  go_wp2
  go_loopw [7, 15] (fun v i wr => ∃ (k : Nat) (acc : List It), k ≤ l.length ∧ acc.length ≤ k ∧ i = .int .i64 k ∧ Hid (acc ++ resP [] t (l.drop k) = R) ∧ Hid (itemK.R 33 wr W.heap.size (fun _ => True) v acc) ∧ Hid (Below W.heap.size W wr)) (fun _ i _ => l.length - (intOf i).toNat)
  case atStart => exact ⟨0, [], by omega, by simp, rfl, HR0, Lib.hid (Kd.R_nil _ _ _ _ _), Lib.hid (Below.refl _ _)⟩
  case round =>
    clear HR0
    obtain ⟨k, acc, hk, hacc, rfl, HR, HO, HB⟩ := hrel
    obtain ⟨Av, cv, hv⟩ := Kd.R_slice HO.out
    subst hv
    by_cases hlt : k < l.length
    · obtain ⟨ad, rfl, e0, e1, e2⟩ := ac_at (Kd.C_below HL.out HB.out) hlt
      have hltI : (k : Int) < l.length := by omega
      have hr := HR.out
      rw [res_at hlt] at hr
      have HRR := Lib.hid hr
      obtain ⟨g0, g1, g2⟩ := HK.out _ (List.getElem_mem hlt)
      clear HR hr
      generalize l[k] = x at *
      obtain ⟨x0, x1, x2⟩ := x
      simp only at e0 e1 e2 g0 g1 g2
      subst g0
      obtain ⟨j, rfl⟩ : ∃ j : Nat, x2 = j := ⟨x2.toNat, by omega⟩
      have hj : j < t.length := by omega
      have hb := below_one wr (.cells #[.int .i64 4, .int .i64 x1, .int .i64 j] 82)
      have HX := Lib.hid (heap_new wr (.cells #[.int .i64 4, .int .i64 x1, .int .i64 j] 82))
      have HB1 := Lib.hid (below_next HB.out hb)
      have HO1 := Lib.hid (Kd.R_below HO.out hb)
      clear hb HO HB g1
      have c0 : (wr.alloc (.cells #[.int .i64 4, .int .i64 x1, .int .i64 j] 82)).cell? ⟨wr.heap.size, 0, none⟩ = some (.int .i64 4) := by rw [cell_of HX.out]; rfl
      have c2 : (wr.alloc (.cells #[.int .i64 4, .int .i64 x1, .int .i64 j] 82)).cell? ⟨wr.heap.size, 2, none⟩ = some (.int .i64 j) := by rw [cell_of HX.out]; rfl
      obtain ⟨ay, hay, f0, f1, f2, f3, f4, f5, f6, f7⟩ := item_at (Kd.C_below HT.out HB1.out) hj
      subst hay
      have HR2 : Hid ((acc ++ [t[j]]) ++ resP [] t (l.drop (k + 1)) = R) := Lib.hid (by have := HRR.out; rw [pick_4, at_in hj] at this; rw [← this]; simp)
      clear HRR HT
      generalize t[j] = y at *
      obtain ⟨y0, y1, y2, y3, y4, y5, y6, y7⟩ := y
      simp only at f0 f1 f2 f3 f4 f5 f6 f7
      go_wp2_with ((with_reducible refine gate_builtin (b := .append) (xs := #[.tmp 42, .tmp 48]) rfl ?_); at_builtin; refine Kd.R_append itemK (w0 := W) W.heap.size rfl (.tmp 42) (.tmp 48) 22 33 (.agg #[.string ByteArray.empty, .int .i64 0, .int .u32 0, .int .u32 0, .int .u32 0, .int .i64 0, .int .i64 0, .string ByteArray.empty]) 72 rfl Tryz.underlying22 infoItem rfl (by decide) (by decide) (.slice Av acc.length cv) acc (y0, y1, y2, y3, y4, y5, y6, y7) [.string y0, .int .i64 y1, .int .u32 y2, .int .u32 y3, .int .u32 y4, .int .i64 y5, .int .i64 y6, .string y7] (fun _ => True) (fun _ => False) rfl (by first | rfl | (simp; done) | (simp; rfl)) ?aP (fun _ hk => hk.elim) ?aF ?aO ?aB ?aS ?aL ?_; skip)
      case aP => exact itemK_M _ _ _ (y0, y1, y2, y3, y4, y5, y6, y7)
      case aB => exact HB1.out
      case aF => exact (fun _ _ => trivial)
      case aO => exact HO1.out
      case aS => exact HB1.out.size
      case aL => first | omega | (simp; done) | (simp; omega)
      intro va w5 ho hb5 hg5 hat5
      have HO6 := Lib.hid ho
      have HB6 := Lib.hid hb5
      clear ho hb5 hg5 hat5
      go_wp2
      go_roundw
      case rel => exact ⟨k + 1, acc ++ [(y0, y1, y2, y3, y4, y5, y6, y7)], by omega, by rw [List.length_append, List.length_singleton]; omega, by go_num, HR2, HO6, HB6⟩
      case measure => simp [intOf]; omega
    · have HS : Hid (acc = R) := Lib.hid (by rw [← HR.out, res_end (by omega), List.append_nil])
      clear HR
      go_wp2
      go_ret
      exact ⟨_, rfl, by rw [← HS.out]; exact HO.out, HB.out⟩
/-! ### the actions -/
theorem one4 : ∀ x ∈ [aA], x.1 = 4 ∧ 0 ≤ x.2.2 ∧ x.2.2 < ([iA] : List It).length := by
  intro x hx
  have : x = aA := by simpa using hx
  subst this
  exact ⟨rfl, by decide, by decide⟩
def seen1 (b : Bool) (p : ByteArray) : Option Bool := if b = true ∧ p = sA then some true else none
theorem odds1 : oddsP [iA] = (ByteArray.empty, false) := by kernel_rfl
set_option maxHeartbeats 8000000 in
set_option maxRecDepth 100000 in
theorem make0 (b : Nat) (w : World) (hi : w.heap[b]? = some (.cells #[.string ⟨#[97]⟩, .int .i64 2, .int .u32 0, .int .u32 0, .int .u32 0, .int .i64 0, .int .i64 0, .string ByteArray.empty] 33 (0, 0))) :
    Calls Tryz.prog 66 #[.int .i64 1, .slice none 0 0, .slice (some ⟨b, 0, none⟩) 1 1, aggF] w fun e w' => ∃ A c, e = .returned (.tuple #[.slice A 1 c, .int .i64 0]) ∧ ActC w' A [aA] ∧ Below w.heap.size w w' := by
  have hb0 := below_one w (.cells #[.slice none 0 0, .slice none 0 0] 80)
  have HF := Lib.hid (heap_new w (.cells #[.slice none 0 0, .slice none 0 0] 80))
  have HI := Lib.hid ((hb0.block b (Array.getElem?_eq_some_iff.1 hi).1).trans hi)
  have HB := Lib.hid hb0
  clear hb0 hi
  go_enter Tryz.func66, Tryz.ntmps66
  go_wp2_with fail
  generalize w.alloc (.cells #[.slice none 0 0, .slice none 0 0] 80) = w0 at *
  generalize hbf : w.heap.size = bf at *
  have HBF := Lib.hid hbf
  clear hbf
  refine (paths0 w0).mono ?_
  rintro e w1 ⟨rfl, hb⟩
  have HF := Lib.hid ((hb.block bf (Array.getElem?_eq_some_iff.1 HF.out).1).trans HF.out)
  have HI := Lib.hid ((hb.block b (Array.getElem?_eq_some_iff.1 HI.out).1).trans HI.out)
  have HB : Hid (Below bf w w1) := Lib.hid (by have h := HBF.out; subst h; exact below_next HB.out hb)
  clear hb
  go_wp2_with fail
  refine (match0 b w1 HI.out).mono ?_
  rintro e w2 ⟨rfl, hb⟩
  have HF := Lib.hid ((hb.block bf (Array.getElem?_eq_some_iff.1 HF.out).1).trans HF.out)
  have HI := Lib.hid ((hb.block b (Array.getElem?_eq_some_iff.1 HI.out).1).trans HI.out)
  have HB : Hid (Below bf w w2) := Lib.hid (by have h := HBF.out; subst h; exact below_next HB.out hb)
  clear hb
  have hb := below_one w2 (.map #[] 0)
  have HM := Lib.hid ((MapF.made (fun b : Bool => Value.bool b) w2).congr (g := seen1 false) (fun p => by simp [seen1]))
  have HF := Lib.hid ((hb.block bf (Array.getElem?_eq_some_iff.1 HF.out).1).trans HF.out)
  have HI := Lib.hid ((hb.block b (Array.getElem?_eq_some_iff.1 HI.out).1).trans HI.out)
  have HBM : Hid (bf ≤ w2.heap.size) := Lib.hid (by have h := HBF.out; subst h; exact HB.out.size)
  have HB : Hid (Below bf w (w2.alloc (.map #[] 0))) := Lib.hid (by have h := HBF.out; subst h; exact below_next HB.out hb)
  clear hb
  go_wp2_with (rw [show (Instr.makeMap 62 none).run Tryz.prog w2 = .ok (.map (some w2.heap.size)) (w2.alloc (.map #[] 0)) from rfl])
  generalize w2.alloc (.map #[] 0) = w3 at *
  generalize w2.heap.size = bm at *
  refine wp_loop_rounds 1 ?_
  rw [rounds_succ]
  go_wp2
  go_loopw [14, 124] (fun v i wr => ∃ (k : Nat) (acc : List Ac), k ≤ 1 ∧ acc.length ≤ 1 ∧ i = .int .i64 k ∧ Hid (acc = if k = 0 then [] else [aA]) ∧ Hid (k = 0 → v = .slice none 0 0) ∧ Hid (acK.R 82 wr w.heap.size (fun _ => True) v acc) ∧ Hid (MapF (fun b : Bool => Value.bool b) wr bm (seen1 (decide (k = 1)))) ∧ Hid (wr.heap[bf]? = some (.cells #[.slice none 0 0, .slice none 0 0] 80 (0, 0))) ∧ Hid (wr.heap[b]? = some (.cells #[.string ⟨#[97]⟩, .int .i64 2, .int .u32 0, .int .u32 0, .int .u32 0, .int .i64 0, .int .i64 0, .string ByteArray.empty] 33 (0, 0))) ∧ Hid (Below bf w wr)) (fun _ i _ => 1 - (intOf i).toNat)
  case atStart => exact ⟨0, [], by omega, by simp, rfl, Lib.hid rfl, Lib.hid (fun _ => rfl), Lib.hid (Kd.R_nil _ _ _ _ _), HM, HF, HI, HB⟩
  case round =>
    clear HF HM HI HB
    obtain ⟨k, acc, hk, hacc, rfl, HA, HV, HO, HM, HF, HI, HB⟩ := hrel
    by_cases hlt : k < 1
    · have hk0 : k = 0 := by omega
      subst hk0
      have hv := HV.out rfl
      subst hv
      have e0 : wr.cell? ⟨b, 0, none⟩ = some (.string ⟨#[97]⟩) := by rw [cell_of HI.out]; rfl
      have e1 : wr.cell? ⟨b, 1, none⟩ = some (.int .i64 2) := by rw [cell_of HI.out]; rfl
      have e2 : wr.cell? ⟨b, 2, none⟩ = some (.int .u32 0) := by rw [cell_of HI.out]; rfl
      have e3 : wr.cell? ⟨b, 3, none⟩ = some (.int .u32 0) := by rw [cell_of HI.out]; rfl
      have e4 : wr.cell? ⟨b, 4, none⟩ = some (.int .u32 0) := by rw [cell_of HI.out]; rfl
      have e5 : wr.cell? ⟨b, 5, none⟩ = some (.int .i64 0) := by rw [cell_of HI.out]; rfl
      have e6 : wr.cell? ⟨b, 6, none⟩ = some (.int .i64 0) := by rw [cell_of HI.out]; rfl
      have e7 : wr.cell? ⟨b, 7, none⟩ = some (.string ByteArray.empty) := by rw [cell_of HI.out]; rfl
      have hb := below_one wr (.cells #[.string ⟨#[97]⟩, .int .i64 2, .int .u32 0, .int .u32 0, .int .u32 0, .int .i64 0, .int .i64 0, .string ByteArray.empty] 33)
      have HX := Lib.hid (heap_new wr (.cells #[.string ⟨#[97]⟩, .int .i64 2, .int .u32 0, .int .u32 0, .int .u32 0, .int .i64 0, .int .i64 0, .string ByteArray.empty] 33))
      have HF1 := Lib.hid ((hb.block bf (Array.getElem?_eq_some_iff.1 HF.out).1).trans HF.out)
      have HI1 := Lib.hid ((hb.block b (Array.getElem?_eq_some_iff.1 HI.out).1).trans HI.out)
      have HM1 := Lib.hid (HM.out.below hb)
      have HB1 : Hid (Below bf w (wr.alloc (.cells #[.string ⟨#[97]⟩, .int .i64 2, .int .u32 0, .int .u32 0, .int .u32 0, .int .i64 0, .int .i64 0, .string ByteArray.empty] 33))) := Lib.hid (by have h := HBF.out; subst h; exact below_next HB.out hb)
      have hq : (Instr.lookup 62 (.map (some bm)) (.string ⟨#[97]⟩) false).run Tryz.prog (wr.alloc (.cells #[.string ⟨#[97]⟩, .int .i64 2, .int .u32 0, .int .u32 0, .int .u32 0, .int .i64 0, .int .i64 0, .string ByteArray.empty] 33)) = .ok (.bool false) (wr.alloc (.cells #[.string ⟨#[97]⟩, .int .i64 2, .int .u32 0, .int .u32 0, .int .u32 0, .int .i64 0, .int .i64 0, .string ByteArray.empty] 33)) := by
        have := HM1.out.ask (P := Tryz.prog) (t := 62) (kT := 9) (eT := 4) (z := .bool false) (by kernel_rfl) (by kernel_rfl) (by kernel_rfl) sA false
        rw [this]; rfl
      have c0 : (wr.alloc (.cells #[.string ⟨#[97]⟩, .int .i64 2, .int .u32 0, .int .u32 0, .int .u32 0, .int .i64 0, .int .i64 0, .string ByteArray.empty] 33)).cell? ⟨wr.heap.size, 0, none⟩ = some (.string ⟨#[97]⟩) := by rw [cell_of HX.out]; rfl
      have c1 : (wr.alloc (.cells #[.string ⟨#[97]⟩, .int .i64 2, .int .u32 0, .int .u32 0, .int .u32 0, .int .i64 0, .int .i64 0, .string ByteArray.empty] 33)).cell? ⟨wr.heap.size, 1, none⟩ = some (.int .i64 2) := by rw [cell_of HX.out]; rfl
      have d0 : (wr.alloc (.cells #[.string ⟨#[97]⟩, .int .i64 2, .int .u32 0, .int .u32 0, .int .u32 0, .int .i64 0, .int .i64 0, .string ByteArray.empty] 33)).cell? ⟨bf, 0, none⟩ = some (.slice none 0 0) := by rw [cell_of HF1.out]; rfl
      have d1 : (wr.alloc (.cells #[.string ⟨#[97]⟩, .int .i64 2, .int .u32 0, .int .u32 0, .int .u32 0, .int .i64 0, .int .i64 0, .string ByteArray.empty] 33)).cell? ⟨bf, 1, none⟩ = some (.slice none 0 0) := by rw [cell_of HF1.out]; rfl
      clear hb HO HM HF HI HB HV HA
      go_wp2_with fail
      clear hq c0 c1 d0 d1 e0 e1 e2 e3 e4 e5 e6 e7
      generalize wr.alloc (.cells #[.string ⟨#[97]⟩, .int .i64 2, .int .u32 0, .int .u32 0, .int .u32 0, .int .i64 0, .int .i64 0, .string ByteArray.empty] 33) = w4 at *
      generalize wr.heap.size = bx at *
      refine (takes0 sA w4).mono ?_
      rintro e w5 ⟨rfl, hb⟩
      have HX := Lib.hid ((hb.block bx (Array.getElem?_eq_some_iff.1 HX.out).1).trans HX.out)
      have HF2 := Lib.hid ((hb.block bf (Array.getElem?_eq_some_iff.1 HF1.out).1).trans HF1.out)
      have HI2 := Lib.hid ((hb.block b (Array.getElem?_eq_some_iff.1 HI1.out).1).trans HI1.out)
      have HM2 := Lib.hid (HM1.out.below hb)
      have HB2 : Hid (Below w.heap.size w w5) := Lib.hid (by have h := HBF.out; subst h; exact below_next HB1.out hb)
      have HO2 : Hid (acK.R 82 w5 w.heap.size (fun _ => True) (.slice none 0 0) []) := Lib.hid (Kd.R_nil _ _ _ _ _)
      clear hb HF1 HI1 HM1 HB1
      go_wp2_with ((with_reducible refine gate_builtin (b := .append) (xs := #[.tmp 152, .tmp 155]) rfl ?_); at_builtin; refine Kd.R_append acK (w0 := w) w.heap.size rfl (.tmp 152) (.tmp 155) 46 82 (.agg #[.int .i64 0, .int .i64 0, .int .i64 0]) 24 rfl Tryz.underlying46 infoAc rfl (by decide) (by decide) (.slice none 0 0) [] aA [.int .i64 4, .int .i64 (-1), .int .i64 0] (fun _ => True) (fun _ => False) rfl (by first | rfl | (simp; done) | (simp; rfl)) ?aP (fun _ hk => hk.elim) ?aF ?aO ?aB ?aS ?aL ?_; skip)
      case aP => exact acK_M _ _ _ aA
      case aB => exact HB2.out
      case aF => exact (fun _ _ => trivial)
      case aO => exact HO2.out
      case aS => exact HB2.out.size
      case aL => first | omega | (simp; done) | (simp; omega)
      intro va w6 ho hb5 hg5 hat5
      have HO6 := Lib.hid ho
      have HB6 := Lib.hid hb5
      have HG6 := Lib.hid (show w5.grownBy w6 none from hg5)
      clear ho hb5 hg5 hat5
      have HX := Lib.hid ((HG6.out.block bx (Array.getElem?_eq_some_iff.1 HX.out).1 (by simp)).trans HX.out)
      have HF6 := Lib.hid ((HG6.out.block bf (Array.getElem?_eq_some_iff.1 HF2.out).1 (by simp)).trans HF2.out)
      have HI6 := Lib.hid ((HG6.out.block b (Array.getElem?_eq_some_iff.1 HI2.out).1 (by simp)).trans HI2.out)
      have HM6 := Lib.hid (HM2.out.grown HG6.out (by simp))
      have c0 : w6.cell? ⟨bx, 0, none⟩ = some (.string ⟨#[97]⟩) := by rw [cell_of HX.out]; rfl
      obtain ⟨w7, h7, hm7, hg7⟩ := HM6.out.store (P := Tryz.prog) (t := 62) (kT := 9) (eT := 4) (by kernel_rfl) (by kernel_rfl) sA true
      have h8 : (Instr.mapUpdate 62 (.map (some bm)) (.string ⟨#[97]⟩) (.bool true)).run Tryz.prog w6 = .ok () w7 := h7
      have HM7 : Hid (MapF (fun b : Bool => Value.bool b) w7 bm (seen1 (decide (0 + 1 = 1)))) := Lib.hid (hm7.congr (fun p => by by_cases e : p = sA <;> simp [seen1, e]))
      have HF7 := Lib.hid ((hg7.block bf (Array.getElem?_eq_some_iff.1 HF6.out).1 (by intro e; injection e with e; exact ne_cells HM6.out HF6.out e)).trans HF6.out)
      have HI7 := Lib.hid ((hg7.block b (Array.getElem?_eq_some_iff.1 HI6.out).1 (by intro e; injection e with e; exact ne_cells HM6.out HI6.out e)).trans HI6.out)
      have HO7 := Lib.hid (Kd.R_grown2 HO6.out rfl hg7 (fun k hk => by injection hk with hk; subst hk; exact ne_own HM6.out HO6.out))
      have HB7 : Hid (Below bf w w7) := Lib.hid (by rw [← HBF.out]; exact below_row HB6.out hg7 (by rw [HBF.out]; exact HBM.out))
      clear h7 hm7 hg7 HX HF2 HI2 HM2 HB2 HO2 HG6 HF6 HI6 HM6 HO6 HB6
      go_wp2
      go_roundw
      case rel => exact ⟨0 + 1, [aA], by omega, by simp, by go_num, Lib.hid rfl, Lib.hid (fun h => absurd h (by simp)), HO7, HM7, HF7, HI7, HB7⟩
      case measure => simp [intOf]
    · have hk1 : k = 1 := by omega
      subst hk1
      have hA : acc = [aA] := HA.out
      subst hA
      obtain ⟨Av, cv, hv, hcv, hC⟩ := Kd.R_reads HO.out
      subst hv
      have HC := Lib.hid hC
      have HAF := Lib.hid (after_adds [iA] [aA] Av cv (some ⟨b, 0, none⟩) 1 wr hC (item_one HI.out) (by simp) one4)
      clear hC hcv HO HA HV HM HF
      go_wp2_with fail
      refine HAF.out.mono ?_
      rintro e w8 ⟨v, rfl, hr, hb⟩
      obtain ⟨Bv, dv, hv, hdv, hD⟩ := Kd.R_reads hr
      subst hv
      have HB8 : Hid (Below bf w w8) := Lib.hid (by have h := HBF.out; subst h; exact below_next HB.out hb)
      have HC8 := Lib.hid (Kd.C_below HC.out hb)
      have HOD := Lib.hid (dodds_any (resP [] [iA] [aA]) Bv dv w8 hD hdv)
      rw [show oddsP (resP [] [iA] [aA]) = (ByteArray.empty, false) from odds1] at HOD
      clear hr hb hD HAF
      go_wp2_with fail
      refine HOD.out.mono ?_
      rintro e w9 ⟨rfl, hb⟩
      have HB9 : Hid (Below bf w w9) := Lib.hid (by have h := HBF.out; subst h; exact below_next HB8.out hb)
      have HC9 := Lib.hid (Kd.C_below HC8.out hb)
      clear hb HOD
      go_wp2
      refine bodyPost_ret (results_tmp2 rfl _ _ _) rfl ?_
      exact ⟨_, _, rfl, HC9.out, by rw [HBF.out]; exact HB9.out⟩
set_option maxHeartbeats 4000000 in
set_option maxRecDepth 100000 in
theorem awake_any (w : World) : Calls Tryz.prog 32 #[] w fun e w' => e = .returned (.bool true) ∧ Below w.heap.size w w' := by
  have hb1 := below_one w (.cells #[.string ⟨#[97]⟩, .int .i64 2, .int .u32 0, .int .u32 0, .int .u32 0, .int .i64 0, .int .i64 0, .string ByteArray.empty] 33)
  have HB1 := Lib.hid hb1
  have HI := Lib.hid (heap_new w (.cells #[.string ⟨#[97]⟩, .int .i64 2, .int .u32 0, .int .u32 0, .int .u32 0, .int .i64 0, .int .i64 0, .string ByteArray.empty] 33))
  have HMK := Lib.hid (make0 w.heap.size _ HI.out)
  clear hb1
  go_enter Tryz.func32, Tryz.ntmps32
  go_wp2_with fail
  refine HMK.out.mono ?_
  rintro e w2 ⟨A, c, rfl, hC, hb⟩
  have HB2 := Lib.hid (below_next HB1.out hb)
  obtain ⟨ad, rfl, e0, e1, e2⟩ := ac_at hC (k := 0) (by simp)
  have h0 : ad.add (0 * 3) = ad := by rw [Nat.zero_mul]; exact if_pos rfl
  rw [h0] at e0 e1 e2
  have e0' : w2.cell? ad = some (.int .i64 4) := e0
  have e1' : w2.cell? ⟨ad.block, ad.off + 1, none⟩ = some (.int .i64 (-1)) := e1
  have e2' : w2.cell? ⟨ad.block, ad.off + 2, none⟩ = some (.int .i64 0) := e2
  have he := fun (dd : Nat) (V : World) => eqAc dd V 4 4 (-1) (-1) 0 0
  simp only [beq_self_eq_true, Bool.and_self] at he
  clear hC hb HMK e0 e1 e2 h0
  go_wp2
  go_ret
  exact ⟨rfl, HB2.out⟩
end Go.Proofs.YtpjjooiamdfmfaaGreatDoor.PlanAwake
