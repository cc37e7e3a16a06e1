/- The document's Odds. -/
import Derived.Test.YtpjjooiamdfmfaaGreatDoorOverLaw
import Derived.Test.YtpjjooiamdfmfaaGreatDoorOdds
import Derived.Laws.Tables
import Derived.Laws.CopyOwn
set_option linter.unusedVariables false
set_option linter.unusedSimpArgs false
namespace Go.Proofs.YtpjjooiamdfmfaaGreatDoor.ROdds
open Go.RowKit Go.Proofs.YtpjjooiamdfmfaaGreatDoorW.PrintWords Go.Proofs.YtpjjooiamdfmfaaGreatDoorW.PrintLast Go.Proofs.YtpjjooiamdfmfaaGreatDoorW.PrintMore Go.Proofs.YtpjjooiamdfmfaaGreatDoor.Item Go.Proofs.YtpjjooiamdfmfaaGreatDoor.Own Go.Proofs.YtpjjooiamdfmfaaGreatDoor.TreeLaw Go.Proofs.YtpjjooiamdfmfaaGreatDoor.NameLaw Go.Proofs.YtpjjooiamdfmfaaGreatDoor.NameWalk Go.Proofs.YtpjjooiamdfmfaaGreatDoor.NameOrd Go.Proofs.YtpjjooiamdfmfaaGreatDoor.NameRef Go.Proofs.YtpjjooiamdfmfaaGreatDoor.NameUse Go.Proofs.YtpjjooiamdfmfaaGreatDoor.OverLaw Go.Proofs.YtpjjooiamdfmfaaGreatDoor.Odds

theorem cell_lt {w : World} {a : Addr} {v : Value} (h : w.cell? a = some v) : a.block < w.heap.size := by
  unfold World.cell? at h
  cases hb : w.heap[a.block]? with
  | none => rw [hb] at h; cases h
  | some o => exact (Array.getElem?_eq_some_iff.1 hb).1
theorem any_take {u : List It} {j : Nat} (h : j < u.length) (p : It → Bool) : (u.take (j + 1)).any p = ((u.take j).any p || p u[j]) := by
  rw [List.take_succ_eq_append_getElem h, List.any_append, List.any_cons, List.any_nil, Bool.or_false]
theorem any_hit {u : List It} {j k : Nat} (h : j < u.length) (hk : j < k) {p : It → Bool} (hp : p u[j] = true) : (u.take k).any p = true :=
  List.any_eq_true.2 ⟨u[j], List.mem_take_iff_getElem.2 ⟨j, by omega, rfl⟩, hp⟩
theorem two_new (w : World) (o p : Obj) : ((w.alloc o).alloc p).heap[w.heap.size]? = some o ∧ ((w.alloc o).alloc p).heap[w.heap.size + 1]? = some p ∧ Below w.heap.size w ((w.alloc o).alloc p) := by
  have h1 := heap_new (w.alloc o) p
  rw [show (w.alloc o).heap.size = w.heap.size + 1 by simp] at h1
  exact ⟨((below_one (w.alloc o) p).block w.heap.size (by simp)).trans (heap_new w o), h1, below_next_ (below_one w o) (below_one _ p)⟩
theorem store_box {W : World} {b : Nat} {old : Array Value} {a : Act} {oi : Oper} {p v : Operand} (y : It) (hop : oi.op = .store 33 p v) (hp : a.eval p = .pointer (some ⟨b, 0, none⟩)) (hv : a.eval v = .agg (cellsI y).toArray) (h : W.heap[b]? = some (.cells old 33 (0, 0))) (ho : old.size = 8) :
    (execOp a.eval oi).run Tryz.prog W = .ok .skip (W.setRow b (cellsI y).toArray) := by
  unfold execOp
  simp only [hop, hp, hv, Instr.storeAt, Instr.sureAddr, Sem.run_bind, Sem.run_pure, Result.andThen_ok, run_storeVar_row (P := Tryz.prog) W b 33 33 old (cellsI y).toArray h (by kernel_rfl) ho (by simp [cellsI, Value.oneCell'])]
set_option maxHeartbeats 8000000 in
set_option maxRecDepth 100000 in
theorem rodds_any (l : List It) (A : Option Addr) (c : Nat) (W : World) (hl : ItemC W A l) (hs : ∀ x ∈ l, x.1.size ≤ 3000) :
    Calls Tryz.prog 10 #[.slice A l.length c] W fun e w' => e = .returned (.tuple #[.string (oddsP l).1, .bool (oddsP l).2]) ∧ Below W.heap.size W w' := by
  have HL := Lib.hid hl
  have HS := Lib.hid hs
  have l1 := hl.2.1
  clear hl hs
  obtain ⟨R, hR⟩ : ∃ R, R = oddsP l := ⟨_, rfl⟩
  have HR0 : Hid (oddsGo (l.take 0) (l.drop 0) = R) := Lib.hid hR.symm
  rw [← hR]
  clear hR
  go_enter Tryz.func10, Tryz.ntmps10
  go_wp2
  go_loopw [10] (fun v wr => ∃ k : Nat, k ≤ l.length ∧ v = .int .i64 k ∧ Hid (oddsGo (l.take k) (l.drop k) = R) ∧ Hid (Below W.heap.size W wr)) (fun v _ => l.length - (intOf v).toNat)
  case atStart => exact ⟨0, by omega, rfl, HR0, Lib.hid (Below.refl _ _)⟩
  case round =>
    clear HR0
    obtain ⟨k, hk, rfl, HR, HB⟩ := hrel
    by_cases hlt : k < l.length
    · have hltI : (k : Int) < l.length := by omega
      have hr := HR.out
      rw [odds_at hlt] at hr
      have HRR := Lib.hid hr
      clear HR hr
      go_wp2
      have HA0 : Hid ((l.take 0).any (oddsQ l[k]) = false) := Lib.hid rfl
      go_loopw [5] (fun v wi => ∃ j : Nat, j ≤ k ∧ v = .int .i64 j ∧ Hid ((l.take j).any (oddsQ l[k]) = false) ∧ Hid (Below W.heap.size W wi)) (fun v _ => k - (intOf v).toNat)
      case atStart => exact ⟨0, by omega, rfl, HA0, HB⟩
      case round =>
        clear HA0
        obtain ⟨j, hj, rfl, HA, HW⟩ := hrel
        by_cases hjk : j < k
        · have hjl : j < l.length := by omega
          have hjI : (j : Int) < (k : Int) := by omega
          have hjI2 : (j : Int) < (l.length : Int) := by omega
          obtain ⟨ad, rfl, e0, e1, e2, e3, e4, e5, e6, e7⟩ := item_at (Kd.C_below HL.out HW.out) hlt
          obtain ⟨ad', had, f0, f1, f2, f3, f4, f5, f6, f7⟩ := item_at (Kd.C_below HL.out HW.out) hjl
          injection had with had
          subst had
          have hxs := HS.out _ (List.getElem_mem hlt)
          have hys := HS.out _ (List.getElem_mem hjl)
          have HAT := Lib.hid (any_take hjl (oddsQ l[k]))
          have HHT : Hid (oddsQ l[k] l[j] = true → (l.take k).any (oddsQ l[k]) = true) := Lib.hid (fun hq => any_hit (p := oddsQ l[k]) hjl hjk hq)
          generalize l[k] = x at *
          generalize l[j] = y at *
          obtain ⟨x0, x1, x2, x3, x4, x5, x6, x7⟩ := x
          obtain ⟨y0, y1, y2, y3, y4, y5, y6, y7⟩ := y
          simp only at e0 e1 e2 e3 e4 e5 e6 e7 f0 f1 f2 f3 f4 f5 f6 f7 hxs hys
          have hlx : (ad.add (k * 8)).block < wr.drew.heap.size := cell_lt e0
          have hly : (ad.add (j * 8)).block < wr.drew.heap.size := cell_lt f0
          go_wp2
          refine start_ (n := 12) (S := fun w' => w'.cell? (ad.add (k * 8)) = some (.string x0) ∧ w'.cell? ⟨(ad.add (k * 8)).block, (ad.add (k * 8)).off + 1, none⟩ = some (.int .i64 x1) ∧ w'.cell? ⟨(ad.add (k * 8)).block, (ad.add (k * 8)).off + 2, none⟩ = some (.int .u32 x2) ∧ w'.cell? ⟨(ad.add (k * 8)).block, (ad.add (k * 8)).off + 3, none⟩ = some (.int .u32 x3) ∧ w'.cell? ⟨(ad.add (k * 8)).block, (ad.add (k * 8)).off + 4, none⟩ = some (.int .u32 x4) ∧ w'.cell? ⟨(ad.add (k * 8)).block, (ad.add (k * 8)).off + 5, none⟩ = some (.int .i64 x5) ∧ w'.cell? ⟨(ad.add (k * 8)).block, (ad.add (k * 8)).off + 6, none⟩ = some (.int .i64 x6) ∧ w'.cell? ⟨(ad.add (k * 8)).block, (ad.add (k * 8)).off + 7, none⟩ = some (.string x7) ∧ w'.cell? (ad.add (j * 8)) = some (.string y0) ∧ w'.cell? ⟨(ad.add (j * 8)).block, (ad.add (j * 8)).off + 1, none⟩ = some (.int .i64 y1) ∧ w'.cell? ⟨(ad.add (j * 8)).block, (ad.add (j * 8)).off + 2, none⟩ = some (.int .u32 y2) ∧ w'.cell? ⟨(ad.add (j * 8)).block, (ad.add (j * 8)).off + 3, none⟩ = some (.int .u32 y3) ∧ w'.cell? ⟨(ad.add (j * 8)).block, (ad.add (j * 8)).off + 4, none⟩ = some (.int .u32 y4) ∧ w'.cell? ⟨(ad.add (j * 8)).block, (ad.add (j * 8)).off + 5, none⟩ = some (.int .i64 y5) ∧ w'.cell? ⟨(ad.add (j * 8)).block, (ad.add (j * 8)).off + 6, none⟩ = some (.int .i64 y6) ∧ w'.cell? ⟨(ad.add (j * 8)).block, (ad.add (j * 8)).off + 7, none⟩ = some (.string y7)) (ds := [11]) #[false, false, false, false, false, false, false, false, false, false, false, false] (by kernel_rfl) rfl rfl ⟨e0, e1, e2, e3, e4, e5, e6, e7, f0, f1, f2, f3, f4, f5, f6, f7⟩ (fun hHeld => ?_)
          have HD1 := Lib.hid (below_next_ HW.out (below_drew (Below.refl wr.heap.size wr)))
          generalize wr.drew = w1 at *
          refine pure_ (i := 0) (N := some 18) (v := ?_) (a' := ?_) #[true, false, false, false, false, false, false, false, false, false, false, false] rfl rfl (by kernel_rfl) (fun _ _ _ h => h) (Or.inl ⟨by rfl, ?_⟩) ?_ ?_
          rotate_left
          · intro w'
            go_simp
            with_reducible rfl
          rotate_left
          · simp only [Act.put, List.setIfInBounds_toArray, List.set_cons_zero, List.set_cons_succ, i64_w, i32_w]
            rfl
          refine pure_ (i := 1) (N := some 19) (v := ?_) (a' := ?_) #[true, true, false, false, false, false, false, false, false, false, false, false] rfl rfl (by kernel_rfl) (fun _ _ _ h => h) (Or.inl ⟨by rfl, ?_⟩) ?_ ?_
          rotate_left
          · intro w'
            go_simp
            with_reducible rfl
          rotate_left
          · simp only [Act.put, List.setIfInBounds_toArray, List.set_cons_zero, List.set_cons_succ, i64_w, i32_w]
            rfl
          refine pure_ (i := 2) (N := some 20) (v := ?_) (a' := ?_) #[true, true, true, false, false, false, false, false, false, false, false, false] rfl rfl (by kernel_rfl) (fun _ _ _ h => h) (Or.inl ⟨by rfl, ?_⟩) ?_ ?_
          rotate_left
          · intro w'
            go_simp
            with_reducible rfl
          rotate_left
          · simp only [Act.put, List.setIfInBounds_toArray, List.set_cons_zero, List.set_cons_succ, i64_w, i32_w]
            rfl
          refine pure_ (i := 4) (N := some 22) (v := ?_) (a' := ?_) #[true, true, true, false, true, false, false, false, false, false, false, false] rfl rfl (by kernel_rfl) (fun _ _ _ h => h) (Or.inl ⟨by rfl, ?_⟩) ?_ ?_
          rotate_left
          · intro w'
            go_simp
            with_reducible rfl
          rotate_left
          · simp only [Act.put, List.setIfInBounds_toArray, List.set_cons_zero, List.set_cons_succ, i64_w, i32_w]
            rfl
          refine pure_ (i := 5) (N := some 23) (v := ?_) (a' := ?_) #[true, true, true, false, true, true, false, false, false, false, false, false] rfl rfl (by kernel_rfl) (fun _ _ _ h => h) (Or.inl ⟨by rfl, ?_⟩) ?_ ?_
          rotate_left
          · intro w'
            go_simp
            with_reducible rfl
          rotate_left
          · simp only [Act.put, List.setIfInBounds_toArray, List.set_cons_zero, List.set_cons_succ, i64_w, i32_w]
            rfl
          refine pure_ (i := 6) (N := some 24) (v := ?_) (a' := ?_) #[true, true, true, false, true, true, true, false, false, false, false, false] rfl rfl (by kernel_rfl) (fun _ _ _ h => h) (Or.inl ⟨by rfl, ?_⟩) ?_ ?_
          rotate_left
          · intro w'
            go_simp
            with_reducible rfl
          rotate_left
          · simp only [Act.put, List.setIfInBounds_toArray, List.set_cons_zero, List.set_cons_succ, i64_w, i32_w]
            rfl
          refine take_ (i := 3) (N := some 21) (v := ?_) (a' := ?_) #[true, true, true, true, true, true, true, false, false, false, false, false] rfl rfl (by kernel_rfl) (fun _ _ _ h => h) (Or.inl ⟨by rfl, ?_⟩) hHeld ?_ ?_
          rotate_left
          · rintro w' ⟨s0, s1, s2, s3, s4, s5, s6, s7, s8, s9, s10, s11, s12, s13, s14, s15⟩
            go_simp
            with_reducible rfl
          rotate_left
          · simp only [Act.put, List.setIfInBounds_toArray, List.set_cons_zero, List.set_cons_succ, i64_w, i32_w]
            rfl
          refine take_ (i := 7) (N := some 25) (v := ?_) (a' := ?_) #[true, true, true, true, true, true, true, true, false, false, false, false] rfl rfl (by kernel_rfl) (fun _ _ _ h => h) (Or.inl ⟨by rfl, ?_⟩) hHeld ?_ ?_
          rotate_left
          · rintro w' ⟨s0, s1, s2, s3, s4, s5, s6, s7, s8, s9, s10, s11, s12, s13, s14, s15⟩
            go_simp
            with_reducible rfl
          rotate_left
          · simp only [Act.put, List.setIfInBounds_toArray, List.set_cons_zero, List.set_cons_succ, i64_w, i32_w]
            rfl
          refine join_ (σ := Nat × Nat) 2 #[true, true, true, true, true, true, true, true, true, true, false, false] (fun s => [(6, .pointer (some ⟨s.1, 0, none⟩)), (7, .pointer (some ⟨s.2, 0, none⟩))]) (fun s w' => (w'.cell? (ad.add (k * 8)) = some (.string x0) ∧ w'.cell? ⟨(ad.add (k * 8)).block, (ad.add (k * 8)).off + 1, none⟩ = some (.int .i64 x1) ∧ w'.cell? ⟨(ad.add (k * 8)).block, (ad.add (k * 8)).off + 2, none⟩ = some (.int .u32 x2) ∧ w'.cell? ⟨(ad.add (k * 8)).block, (ad.add (k * 8)).off + 3, none⟩ = some (.int .u32 x3) ∧ w'.cell? ⟨(ad.add (k * 8)).block, (ad.add (k * 8)).off + 4, none⟩ = some (.int .u32 x4) ∧ w'.cell? ⟨(ad.add (k * 8)).block, (ad.add (k * 8)).off + 5, none⟩ = some (.int .i64 x5) ∧ w'.cell? ⟨(ad.add (k * 8)).block, (ad.add (k * 8)).off + 6, none⟩ = some (.int .i64 x6) ∧ w'.cell? ⟨(ad.add (k * 8)).block, (ad.add (k * 8)).off + 7, none⟩ = some (.string x7) ∧ w'.cell? (ad.add (j * 8)) = some (.string y0) ∧ w'.cell? ⟨(ad.add (j * 8)).block, (ad.add (j * 8)).off + 1, none⟩ = some (.int .i64 y1) ∧ w'.cell? ⟨(ad.add (j * 8)).block, (ad.add (j * 8)).off + 2, none⟩ = some (.int .u32 y2) ∧ w'.cell? ⟨(ad.add (j * 8)).block, (ad.add (j * 8)).off + 3, none⟩ = some (.int .u32 y3) ∧ w'.cell? ⟨(ad.add (j * 8)).block, (ad.add (j * 8)).off + 4, none⟩ = some (.int .u32 y4) ∧ w'.cell? ⟨(ad.add (j * 8)).block, (ad.add (j * 8)).off + 5, none⟩ = some (.int .i64 y5) ∧ w'.cell? ⟨(ad.add (j * 8)).block, (ad.add (j * 8)).off + 6, none⟩ = some (.int .i64 y6) ∧ w'.cell? ⟨(ad.add (j * 8)).block, (ad.add (j * 8)).off + 7, none⟩ = some (.string y7)) ∧ s.1 ≠ s.2 ∧ w'.heap[s.1]? = some (.cells #[.string ByteArray.empty, .int .i64 0, .int .u32 0, .int .u32 0, .int .u32 0, .int .i64 0, .int .i64 0, .string ByteArray.empty] 33) ∧ w'.heap[s.2]? = some (.cells #[.string ByteArray.empty, .int .i64 0, .int .u32 0, .int .u32 0, .int .u32 0, .int .i64 0, .int .i64 0, .string ByteArray.empty] 33) ∧ w1.heap.size ≤ s.1 ∧ w1.heap.size ≤ s.2 ∧ Below w1.heap.size w1 w') ?_ ?_
          rotate_left
          · intro hCont
            refine two_ (i := 8) (j := 9) (Ni := some 6) (Nj := some 7) #[true, true, true, true, true, true, true, true, true, false, false, false] #[true, true, true, true, true, true, true, true, false, true, false, false] rfl rfl rfl rfl (by kernel_rfl) (by decide) (by decide) (fun K hK => ?_) (fun K hK => ?_)
            · skip
              refine value_ (w1 := ?_) (v := ?_) (by rfl) rfl ?_ ?_
              rotate_left 2
              · go_simp
                constructor
                · rfl
                · rfl
              refine hK.out _ _ ⟨(pw_cell_below (below_one _ _) hHeld.1), (pw_cell_below (below_one _ _) hHeld.2.1), (pw_cell_below (below_one _ _) hHeld.2.2.1), (pw_cell_below (below_one _ _) hHeld.2.2.2.1), (pw_cell_below (below_one _ _) hHeld.2.2.2.2.1), (pw_cell_below (below_one _ _) hHeld.2.2.2.2.2.1), (pw_cell_below (below_one _ _) hHeld.2.2.2.2.2.2.1), (pw_cell_below (below_one _ _) hHeld.2.2.2.2.2.2.2.1), (pw_cell_below (below_one _ _) hHeld.2.2.2.2.2.2.2.2.1), (pw_cell_below (below_one _ _) hHeld.2.2.2.2.2.2.2.2.2.1), (pw_cell_below (below_one _ _) hHeld.2.2.2.2.2.2.2.2.2.2.1), (pw_cell_below (below_one _ _) hHeld.2.2.2.2.2.2.2.2.2.2.2.1), (pw_cell_below (below_one _ _) hHeld.2.2.2.2.2.2.2.2.2.2.2.2.1), (pw_cell_below (below_one _ _) hHeld.2.2.2.2.2.2.2.2.2.2.2.2.2.1), (pw_cell_below (below_one _ _) hHeld.2.2.2.2.2.2.2.2.2.2.2.2.2.2.1), (pw_cell_below (below_one _ _) hHeld.2.2.2.2.2.2.2.2.2.2.2.2.2.2.2)⟩ (fun hHeld => ?_)
              clear hK K
              refine norm_ (a' := ?_) ?_ ?_
              rotate_left
              · show Act.put _ (some 6) _ = _
                simp only [Act.put, List.setIfInBounds_toArray, List.set_cons_zero, List.set_cons_succ, i64_w, i32_w]
                rfl
              refine one_ (i := 9) (N := some 7) #[true, true, true, true, true, true, true, true, true, true, false, false] rfl rfl (by kernel_rfl) (by decide) (fun K hK => ?_)
              refine value_ (w1 := ?_) (v := ?_) (by rfl) rfl ?_ ?_
              rotate_left 2
              · go_simp
                constructor
                · rfl
                · rfl
              refine hK.out _ _ ⟨(pw_cell_below (below_one _ _) hHeld.1), (pw_cell_below (below_one _ _) hHeld.2.1), (pw_cell_below (below_one _ _) hHeld.2.2.1), (pw_cell_below (below_one _ _) hHeld.2.2.2.1), (pw_cell_below (below_one _ _) hHeld.2.2.2.2.1), (pw_cell_below (below_one _ _) hHeld.2.2.2.2.2.1), (pw_cell_below (below_one _ _) hHeld.2.2.2.2.2.2.1), (pw_cell_below (below_one _ _) hHeld.2.2.2.2.2.2.2.1), (pw_cell_below (below_one _ _) hHeld.2.2.2.2.2.2.2.2.1), (pw_cell_below (below_one _ _) hHeld.2.2.2.2.2.2.2.2.2.1), (pw_cell_below (below_one _ _) hHeld.2.2.2.2.2.2.2.2.2.2.1), (pw_cell_below (below_one _ _) hHeld.2.2.2.2.2.2.2.2.2.2.2.1), (pw_cell_below (below_one _ _) hHeld.2.2.2.2.2.2.2.2.2.2.2.2.1), (pw_cell_below (below_one _ _) hHeld.2.2.2.2.2.2.2.2.2.2.2.2.2.1), (pw_cell_below (below_one _ _) hHeld.2.2.2.2.2.2.2.2.2.2.2.2.2.2.1), (pw_cell_below (below_one _ _) hHeld.2.2.2.2.2.2.2.2.2.2.2.2.2.2.2)⟩ (fun hHeld => ?_)
              clear hK K
              refine norm_ (a' := ?_) ?_ ?_
              rotate_left
              · show Act.put _ (some 7) _ = _
                simp only [Act.put, List.setIfInBounds_toArray, List.set_cons_zero, List.set_cons_succ, i64_w, i32_w]
                rfl
              exact norm_ (by simp only [putAll, Act.put, List.setIfInBounds_toArray, List.set_cons_zero, List.set_cons_succ]) (hCont (w1.heap.size, w1.heap.size + 1) _ ⟨hHeld, (by simp), (two_new _ _ _).1, (two_new _ _ _).2.1, (Nat.le_refl _), (Nat.le_succ _), (two_new _ _ _).2.2⟩)
            · skip
              refine value_ (w1 := ?_) (v := ?_) (by rfl) rfl ?_ ?_
              rotate_left 2
              · go_simp
                constructor
                · rfl
                · rfl
              refine hK.out _ _ ⟨(pw_cell_below (below_one _ _) hHeld.1), (pw_cell_below (below_one _ _) hHeld.2.1), (pw_cell_below (below_one _ _) hHeld.2.2.1), (pw_cell_below (below_one _ _) hHeld.2.2.2.1), (pw_cell_below (below_one _ _) hHeld.2.2.2.2.1), (pw_cell_below (below_one _ _) hHeld.2.2.2.2.2.1), (pw_cell_below (below_one _ _) hHeld.2.2.2.2.2.2.1), (pw_cell_below (below_one _ _) hHeld.2.2.2.2.2.2.2.1), (pw_cell_below (below_one _ _) hHeld.2.2.2.2.2.2.2.2.1), (pw_cell_below (below_one _ _) hHeld.2.2.2.2.2.2.2.2.2.1), (pw_cell_below (below_one _ _) hHeld.2.2.2.2.2.2.2.2.2.2.1), (pw_cell_below (below_one _ _) hHeld.2.2.2.2.2.2.2.2.2.2.2.1), (pw_cell_below (below_one _ _) hHeld.2.2.2.2.2.2.2.2.2.2.2.2.1), (pw_cell_below (below_one _ _) hHeld.2.2.2.2.2.2.2.2.2.2.2.2.2.1), (pw_cell_below (below_one _ _) hHeld.2.2.2.2.2.2.2.2.2.2.2.2.2.2.1), (pw_cell_below (below_one _ _) hHeld.2.2.2.2.2.2.2.2.2.2.2.2.2.2.2)⟩ (fun hHeld => ?_)
              clear hK K
              refine norm_ (a' := ?_) ?_ ?_
              rotate_left
              · show Act.put _ (some 7) _ = _
                simp only [Act.put, List.setIfInBounds_toArray, List.set_cons_zero, List.set_cons_succ, i64_w, i32_w]
                rfl
              refine one_ (i := 8) (N := some 6) #[true, true, true, true, true, true, true, true, true, true, false, false] rfl rfl (by kernel_rfl) (by decide) (fun K hK => ?_)
              refine value_ (w1 := ?_) (v := ?_) (by rfl) rfl ?_ ?_
              rotate_left 2
              · go_simp
                constructor
                · rfl
                · rfl
              refine hK.out _ _ ⟨(pw_cell_below (below_one _ _) hHeld.1), (pw_cell_below (below_one _ _) hHeld.2.1), (pw_cell_below (below_one _ _) hHeld.2.2.1), (pw_cell_below (below_one _ _) hHeld.2.2.2.1), (pw_cell_below (below_one _ _) hHeld.2.2.2.2.1), (pw_cell_below (below_one _ _) hHeld.2.2.2.2.2.1), (pw_cell_below (below_one _ _) hHeld.2.2.2.2.2.2.1), (pw_cell_below (below_one _ _) hHeld.2.2.2.2.2.2.2.1), (pw_cell_below (below_one _ _) hHeld.2.2.2.2.2.2.2.2.1), (pw_cell_below (below_one _ _) hHeld.2.2.2.2.2.2.2.2.2.1), (pw_cell_below (below_one _ _) hHeld.2.2.2.2.2.2.2.2.2.2.1), (pw_cell_below (below_one _ _) hHeld.2.2.2.2.2.2.2.2.2.2.2.1), (pw_cell_below (below_one _ _) hHeld.2.2.2.2.2.2.2.2.2.2.2.2.1), (pw_cell_below (below_one _ _) hHeld.2.2.2.2.2.2.2.2.2.2.2.2.2.1), (pw_cell_below (below_one _ _) hHeld.2.2.2.2.2.2.2.2.2.2.2.2.2.2.1), (pw_cell_below (below_one _ _) hHeld.2.2.2.2.2.2.2.2.2.2.2.2.2.2.2)⟩ (fun hHeld => ?_)
              clear hK K
              refine norm_ (a' := ?_) ?_ ?_
              rotate_left
              · show Act.put _ (some 6) _ = _
                simp only [Act.put, List.setIfInBounds_toArray, List.set_cons_zero, List.set_cons_succ, i64_w, i32_w]
                rfl
              exact norm_ (by simp only [putAll, Act.put, List.setIfInBounds_toArray, List.set_cons_zero, List.set_cons_succ]) (hCont (w1.heap.size + 1, w1.heap.size) _ ⟨hHeld, (by simp), (two_new _ _ _).2.1, (two_new _ _ _).1, (Nat.le_succ _), (Nat.le_refl _), (two_new _ _ _).2.2⟩)
          rintro ⟨ba, bb⟩ w2 ⟨hHeld, hne, hba, hbb, hga, hgb, hbel⟩
          have hfx : (ad.add (k * 8)).block ≠ ba := fun e => by have := hlx; rw [e] at this; exact Nat.lt_irrefl _ (Nat.lt_of_lt_of_le this hga)
          have hfy : (ad.add (j * 8)).block ≠ ba := fun e => by have := hly; rw [e] at this; exact Nat.lt_irrefl _ (Nat.lt_of_lt_of_le this hga)
          refine norm_ (a' := ?_) ?_ ?_
          rotate_left
          · simp only [putAll, Act.put, List.setIfInBounds_toArray, List.set_cons_zero, List.set_cons_succ]
            rfl
          refine one_ (i := 10) (N := none) #[true, true, true, true, true, true, true, true, true, true, true, false] rfl rfl (by kernel_rfl) (by decide) (fun K hK => ?_)
          refine skip_ (w1 := _) (by rfl) rfl (store_box (x0, x1, x2, x3, x4, x5, x6, x7) rfl rfl rfl hba rfl) ?_
          refine hK.out _ _ ⟨((cell_setRow_other w2 ba _ (ad.add (k * 8)) hfx).trans hHeld.1), ((cell_setRow_other w2 ba _ ⟨(ad.add (k * 8)).block, (ad.add (k * 8)).off + 1, none⟩ hfx).trans hHeld.2.1), ((cell_setRow_other w2 ba _ ⟨(ad.add (k * 8)).block, (ad.add (k * 8)).off + 2, none⟩ hfx).trans hHeld.2.2.1), ((cell_setRow_other w2 ba _ ⟨(ad.add (k * 8)).block, (ad.add (k * 8)).off + 3, none⟩ hfx).trans hHeld.2.2.2.1), ((cell_setRow_other w2 ba _ ⟨(ad.add (k * 8)).block, (ad.add (k * 8)).off + 4, none⟩ hfx).trans hHeld.2.2.2.2.1), ((cell_setRow_other w2 ba _ ⟨(ad.add (k * 8)).block, (ad.add (k * 8)).off + 5, none⟩ hfx).trans hHeld.2.2.2.2.2.1), ((cell_setRow_other w2 ba _ ⟨(ad.add (k * 8)).block, (ad.add (k * 8)).off + 6, none⟩ hfx).trans hHeld.2.2.2.2.2.2.1), ((cell_setRow_other w2 ba _ ⟨(ad.add (k * 8)).block, (ad.add (k * 8)).off + 7, none⟩ hfx).trans hHeld.2.2.2.2.2.2.2.1), ((cell_setRow_other w2 ba _ (ad.add (j * 8)) hfy).trans hHeld.2.2.2.2.2.2.2.2.1), ((cell_setRow_other w2 ba _ ⟨(ad.add (j * 8)).block, (ad.add (j * 8)).off + 1, none⟩ hfy).trans hHeld.2.2.2.2.2.2.2.2.2.1), ((cell_setRow_other w2 ba _ ⟨(ad.add (j * 8)).block, (ad.add (j * 8)).off + 2, none⟩ hfy).trans hHeld.2.2.2.2.2.2.2.2.2.2.1), ((cell_setRow_other w2 ba _ ⟨(ad.add (j * 8)).block, (ad.add (j * 8)).off + 3, none⟩ hfy).trans hHeld.2.2.2.2.2.2.2.2.2.2.2.1), ((cell_setRow_other w2 ba _ ⟨(ad.add (j * 8)).block, (ad.add (j * 8)).off + 4, none⟩ hfy).trans hHeld.2.2.2.2.2.2.2.2.2.2.2.2.1), ((cell_setRow_other w2 ba _ ⟨(ad.add (j * 8)).block, (ad.add (j * 8)).off + 5, none⟩ hfy).trans hHeld.2.2.2.2.2.2.2.2.2.2.2.2.2.1), ((cell_setRow_other w2 ba _ ⟨(ad.add (j * 8)).block, (ad.add (j * 8)).off + 6, none⟩ hfy).trans hHeld.2.2.2.2.2.2.2.2.2.2.2.2.2.2.1), ((cell_setRow_other w2 ba _ ⟨(ad.add (j * 8)).block, (ad.add (j * 8)).off + 7, none⟩ hfy).trans hHeld.2.2.2.2.2.2.2.2.2.2.2.2.2.2.2)⟩ (fun hHeld => ?_)
          clear hK K
          refine last_ (i := 11) (N := none) #[true, true, true, true, true, true, true, true, true, true, true, true] rfl rfl (by kernel_rfl) (by decide) (fun K hK => ?_)
          refine skip_ (w1 := _) (by rfl) rfl (store_box (y0, y1, y2, y3, y4, y5, y6, y7) rfl rfl rfl ((setRow_other w2 ba bb _ (fun e => hne e.symm)).trans hbb) rfl) ?_
          refine hK.out _ _ ?_
          clear hK K
          refine done_ (by kernel_rfl) ?_
          have HX := Lib.hid (show ((w2.setRow ba (cellsI (x0, x1, x2, x3, x4, x5, x6, x7)).toArray).setRow bb (cellsI (y0, y1, y2, y3, y4, y5, y6, y7)).toArray).heap[ba]? = some (.cells #[.string x0, .int .i64 x1, .int .u32 x2, .int .u32 x3, .int .u32 x4, .int .i64 x5, .int .i64 x6, .string x7] 33) from (setRow_other _ bb ba _ hne).trans (setRow_heap w2 ba _ _ _ _ hba))
          have HY := Lib.hid (show ((w2.setRow ba (cellsI (x0, x1, x2, x3, x4, x5, x6, x7)).toArray).setRow bb (cellsI (y0, y1, y2, y3, y4, y5, y6, y7)).toArray).heap[bb]? = some (.cells #[.string y0, .int .i64 y1, .int .u32 y2, .int .u32 y3, .int .u32 y4, .int .i64 y5, .int .i64 y6, .string y7] 33) from setRow_heap _ bb _ _ _ _ ((setRow_other w2 ba bb _ (fun e => hne e.symm)).trans hbb))
          have HB7 := Lib.hid (below_setRow (below_setRow (below_next_ HD1.out hbel) (Nat.le_trans HD1.out.size hga) (cellsI (x0, x1, x2, x3, x4, x5, x6, x7)).toArray) (Nat.le_trans HD1.out.size hgb) (cellsI (y0, y1, y2, y3, y4, y5, y6, y7)).toArray)
          clear hHeld hba hbb hga hgb hbel hfx hfy hlx hly hne HD1 HW e0 f0 e1 f1 e2 f2 e3 f3 e4 f4 e5 f5 e6 f6 e7 f7
          generalize ((w2.setRow ba (cellsI (x0, x1, x2, x3, x4, x5, x6, x7)).toArray).setRow bb (cellsI (y0, y1, y2, y3, y4, y5, y6, y7)).toArray) = w3 at *
          have HOR : Hid (oddsQ (x0, x1, x2, x3, x4, x5, x6, x7) (y0, y1, y2, y3, y4, y5, y6, y7) = (decide (x0 = y0) || (underT x0 y0 && (y1 != 1)) || (underT y0 x0 && (x1 != 1)))) := Lib.hid (odds_ref _ _)
          have c0 : w3.cell? ⟨ba, 0, none⟩ = some (.string x0) := by rw [cell_of HX.out]; rfl
          have d0 : w3.cell? ⟨bb, 0, none⟩ = some (.string y0) := by rw [cell_of HY.out]; rfl
          by_cases h0 : x0 = y0
          · have h0t : (x0.toList == y0.toList) = true := by rw [h0]; simp
            have hq : oddsQ (x0, x1, x2, x3, x4, x5, x6, x7) (y0, y1, y2, y3, y4, y5, y6, y7) = true := by rw [HOR.out, decide_eq_true h0]; rfl
            have HRt : Hid ((x0, true) = R) := Lib.hid (by have := HRR.out; rw [HHT.out hq, if_pos rfl] at this; exact this)
            have c0 : w3.cell? ⟨ba, 0, none⟩ = some (.string x0) := by rw [cell_of HX.out]; rfl
            clear hq HOR HRR HHT HAT
            try clear h0
            try clear hx1
            try clear hy1
            go_wp2
            refine bodyPost_ret (results_tmp2 rfl _ _ _) rfl ?_
            exact ⟨by rw [← HRt.out]; rfl, HB7.out⟩
          · have h0f := beq_f h0
            have h0d : decide (x0 = y0) = false := decide_eq_false h0
            go_wp2_with fail
            clear c0 d0
            refine (runder_next (w := w3) (Lib.hid (Below.refl _ _)) x0 y0 (by omega) (by omega)).mono ?_
            rintro e w4 ⟨rfl, hb⟩
            have HX := Lib.hid ((hb.out.block _ (Array.getElem?_eq_some_iff.1 HX.out).1).trans HX.out)
            have HY := Lib.hid ((hb.out.block _ (Array.getElem?_eq_some_iff.1 HY.out).1).trans HY.out)
            have HB7 := Lib.hid (below_next_ HB7.out hb.out)
            clear hb
            generalize underT x0 y0 = u1 at *
            cases u1 with
            | true =>
              have d1 : w4.cell? ⟨bb, 1, none⟩ = some (.int .i64 y1) := by rw [cell_of HY.out]; rfl
              by_cases hy1 : y1 = 1
              · have g0 : (y1 != 1) = false := by simp [hy1]
                have c0 : w4.cell? ⟨ba, 0, none⟩ = some (.string x0) := by rw [cell_of HX.out]; rfl
                have d0 : w4.cell? ⟨bb, 0, none⟩ = some (.string y0) := by rw [cell_of HY.out]; rfl
                go_wp2_with fail
                clear c0 d0
                refine (runder_next (w := w4) (Lib.hid (Below.refl _ _)) y0 x0 (by omega) (by omega)).mono ?_
                rintro e w5 ⟨rfl, hb⟩
                have HX := Lib.hid ((hb.out.block _ (Array.getElem?_eq_some_iff.1 HX.out).1).trans HX.out)
                have HY := Lib.hid ((hb.out.block _ (Array.getElem?_eq_some_iff.1 HY.out).1).trans HY.out)
                have HB7 := Lib.hid (below_next_ HB7.out hb.out)
                clear hb
                generalize underT y0 x0 = u2 at *
                cases u2 with
                | true =>
                  have c1 : w5.cell? ⟨ba, 1, none⟩ = some (.int .i64 x1) := by rw [cell_of HX.out]; rfl
                  try clear hy1
                  by_cases hx1 : x1 = 1
                  · have g1 : (x1 != 1) = false := by simp [hx1]
                    have hq : oddsQ (x0, x1, x2, x3, x4, x5, x6, x7) (y0, y1, y2, y3, y4, y5, y6, y7) = false := by rw [HOR.out, h0d, g0, g1]; rfl
                    have HA2 : Hid ((l.take (j + 1)).any (oddsQ (x0, x1, x2, x3, x4, x5, x6, x7)) = false) := Lib.hid (by rw [HAT.out, HA.out, hq]; rfl)
                    clear hq HOR HRR HHT HAT
                    try clear h0
                    try clear hx1
                    try clear hy1
                    go_wp2
                    go_roundw
                    case rel => exact ⟨j + 1, by omega, by go_num, HA2, HB7⟩
                    case measure => simp [intOf]; omega
                  · have g1 : (x1 != 1) = true := by simp [hx1]
                    have hq : oddsQ (x0, x1, x2, x3, x4, x5, x6, x7) (y0, y1, y2, y3, y4, y5, y6, y7) = true := by rw [HOR.out, h0d, g0, g1]; rfl
                    have HRt : Hid ((x0, true) = R) := Lib.hid (by have := HRR.out; rw [HHT.out hq, if_pos rfl] at this; exact this)
                    have c0 : w5.cell? ⟨ba, 0, none⟩ = some (.string x0) := by rw [cell_of HX.out]; rfl
                    clear hq HOR HRR HHT HAT
                    try clear h0
                    try clear hx1
                    try clear hy1
                    go_wp2
                    refine bodyPost_ret (results_tmp2 rfl _ _ _) rfl ?_
                    exact ⟨by rw [← HRt.out]; rfl, HB7.out⟩
                | false =>
                  have hq : oddsQ (x0, x1, x2, x3, x4, x5, x6, x7) (y0, y1, y2, y3, y4, y5, y6, y7) = false := by rw [HOR.out, h0d, g0]; rfl
                  have HA2 : Hid ((l.take (j + 1)).any (oddsQ (x0, x1, x2, x3, x4, x5, x6, x7)) = false) := Lib.hid (by rw [HAT.out, HA.out, hq]; rfl)
                  clear hq HOR HRR HHT HAT
                  try clear h0
                  try clear hx1
                  try clear hy1
                  go_wp2
                  go_roundw
                  case rel => exact ⟨j + 1, by omega, by go_num, HA2, HB7⟩
                  case measure => simp [intOf]; omega
              · have g0 : (y1 != 1) = true := by simp [hy1]
                have hq : oddsQ (x0, x1, x2, x3, x4, x5, x6, x7) (y0, y1, y2, y3, y4, y5, y6, y7) = true := by rw [HOR.out, h0d, g0]; rfl
                have HRt : Hid ((x0, true) = R) := Lib.hid (by have := HRR.out; rw [HHT.out hq, if_pos rfl] at this; exact this)
                have c0 : w4.cell? ⟨ba, 0, none⟩ = some (.string x0) := by rw [cell_of HX.out]; rfl
                clear hq HOR HRR HHT HAT
                try clear h0
                try clear hx1
                try clear hy1
                go_wp2
                refine bodyPost_ret (results_tmp2 rfl _ _ _) rfl ?_
                exact ⟨by rw [← HRt.out]; rfl, HB7.out⟩
            | false =>
              have c0 : w4.cell? ⟨ba, 0, none⟩ = some (.string x0) := by rw [cell_of HX.out]; rfl
              have d0 : w4.cell? ⟨bb, 0, none⟩ = some (.string y0) := by rw [cell_of HY.out]; rfl
              go_wp2_with fail
              clear c0 d0
              refine (runder_next (w := w4) (Lib.hid (Below.refl _ _)) y0 x0 (by omega) (by omega)).mono ?_
              rintro e w5 ⟨rfl, hb⟩
              have HX := Lib.hid ((hb.out.block _ (Array.getElem?_eq_some_iff.1 HX.out).1).trans HX.out)
              have HY := Lib.hid ((hb.out.block _ (Array.getElem?_eq_some_iff.1 HY.out).1).trans HY.out)
              have HB7 := Lib.hid (below_next_ HB7.out hb.out)
              clear hb
              generalize underT y0 x0 = u2 at *
              cases u2 with
              | true =>
                have c1 : w5.cell? ⟨ba, 1, none⟩ = some (.int .i64 x1) := by rw [cell_of HX.out]; rfl
                try clear hy1
                by_cases hx1 : x1 = 1
                · have g1 : (x1 != 1) = false := by simp [hx1]
                  have hq : oddsQ (x0, x1, x2, x3, x4, x5, x6, x7) (y0, y1, y2, y3, y4, y5, y6, y7) = false := by rw [HOR.out, h0d, g1]; rfl
                  have HA2 : Hid ((l.take (j + 1)).any (oddsQ (x0, x1, x2, x3, x4, x5, x6, x7)) = false) := Lib.hid (by rw [HAT.out, HA.out, hq]; rfl)
                  clear hq HOR HRR HHT HAT
                  try clear h0
                  try clear hx1
                  try clear hy1
                  go_wp2
                  go_roundw
                  case rel => exact ⟨j + 1, by omega, by go_num, HA2, HB7⟩
                  case measure => simp [intOf]; omega
                · have g1 : (x1 != 1) = true := by simp [hx1]
                  have hq : oddsQ (x0, x1, x2, x3, x4, x5, x6, x7) (y0, y1, y2, y3, y4, y5, y6, y7) = true := by rw [HOR.out, h0d, g1]; rfl
                  have HRt : Hid ((x0, true) = R) := Lib.hid (by have := HRR.out; rw [HHT.out hq, if_pos rfl] at this; exact this)
                  have c0 : w5.cell? ⟨ba, 0, none⟩ = some (.string x0) := by rw [cell_of HX.out]; rfl
                  clear hq HOR HRR HHT HAT
                  try clear h0
                  try clear hx1
                  try clear hy1
                  go_wp2
                  refine bodyPost_ret (results_tmp2 rfl _ _ _) rfl ?_
                  exact ⟨by rw [← HRt.out]; rfl, HB7.out⟩
              | false =>
                have hq : oddsQ (x0, x1, x2, x3, x4, x5, x6, x7) (y0, y1, y2, y3, y4, y5, y6, y7) = false := by rw [HOR.out, h0d]; rfl
                have HA2 : Hid ((l.take (j + 1)).any (oddsQ (x0, x1, x2, x3, x4, x5, x6, x7)) = false) := Lib.hid (by rw [HAT.out, HA.out, hq]; rfl)
                clear hq HOR HRR HHT HAT
                try clear h0
                try clear hx1
                try clear hy1
                go_wp2
                go_roundw
                case rel => exact ⟨j + 1, by omega, by go_num, HA2, HB7⟩
                case measure => simp [intOf]; omega
        · have HRn : Hid (oddsGo (l.take (k + 1)) (l.drop (k + 1)) = R) := Lib.hid (by have := HRR.out; have h2 := HA.out; rw [show j = k by omega] at h2; rw [h2] at this; exact this)
          clear HA HRR
          go_wp2
          go_roundw
          case rel => exact ⟨k + 1, by omega, by go_num, HRn, HW⟩
          case measure => simp [intOf]; omega
    · have HS2 := Lib.hid (show (⟨#[]⟩, false) = R by rw [← HR.out, odds_end (by omega)])
      go_wp2
      refine bodyPost_ret (results_tmp2 rfl _ _ _) rfl ?_
      exact ⟨by rw [← HS2.out]; rfl, HB.out⟩
end Go.Proofs.YtpjjooiamdfmfaaGreatDoor.ROdds
