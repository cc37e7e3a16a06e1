/- tree: Clone of items; its closures; IndexFunc of items. -/
import Derived.Test.YtpjjooiamdfmfaaGreatDoorSortIns
import Derived.Test.YtpjjooiamdfmfaaGreatDoorNameUse
import Derived.Laws.ResultCell
set_option linter.unusedVariables false
set_option linter.unusedSimpArgs false
namespace Go.Proofs.YtpjjooiamdfmfaaGreatDoor.TreeFn
open Go.RowKit Go.Proofs.YtpjjooiamdfmfaaGreatDoorW.PrintWords Go.Proofs.YtpjjooiamdfmfaaGreatDoorW.PrintLast Go.Proofs.YtpjjooiamdfmfaaGreatDoorW.PrintMore Go.Proofs.YtpjjooiamdfmfaaGreatDoor.Item Go.Proofs.YtpjjooiamdfmfaaGreatDoor.Own Go.Proofs.YtpjjooiamdfmfaaGreatDoor.TreeLaw Go.Proofs.YtpjjooiamdfmfaaGreatDoor.NameLaw Go.Proofs.YtpjjooiamdfmfaaGreatDoor.NameWalk Go.Proofs.YtpjjooiamdfmfaaGreatDoor.NameOrd Go.Proofs.YtpjjooiamdfmfaaGreatDoor.NameRef Go.Proofs.YtpjjooiamdfmfaaGreatDoor.NameUse Go.Proofs.YtpjjooiamdfmfaaGreatDoor.SortIns

set_option maxHeartbeats 4000000 in
set_option maxRecDepth 100000 in
theorem clone_some (l : List It) (ad : Addr) (c : Nat) (W : World) (hl : ItemC W (some ad) l) (hn : l.length ≤ 1000000) :
    Calls Tryz.prog 44 #[.slice (some ad) l.length c] W fun e w' => ∃ v1, e = .returned v1 ∧ itemK.R 33 w' W.heap.size (fun _ => True) v1 l ∧ Below W.heap.size W w' := by
  have q66 : ∀ (w : World) (a : Option Addr) (n c n' c' : Nat), (binOp .eql 22 (.slice a n c) (.slice none n' c')).run Tryz.prog w = .ok (.bool a.isNone) w := fun w a n c n' c' => Lib.run_eql_slice_nil w _ _ a n c n' c' Tryz.underlying22
  have HL := Lib.hid hl
  clear hl
  go_enter Tryz.func44, Tryz.ntmps44
  go_wp2_with ((with_reducible refine gate_builtin (b := .append) (xs := #[.tmp 5, .tmp 6]) rfl ?_); at_builtin; generalize hmark : wpList _ _ _ _ _ _ = goal)
  rw [← hmark]
  clear hmark
  refine Kd.R_append_rows itemK (w0 := W) W.heap.size rfl (.tmp 5) (.tmp 6) 22 33 (.agg #[.string ByteArray.empty, .int .i64 0, .int .u32 0, .int .u32 0, .int .u32 0, .int .i64 0, .int .i64 0, .string ByteArray.empty]) 72 rfl Tryz.underlying22 infoItem rfl (by decide) (by decide) _ ([] : List It) l (some ad) l.length c (fun _ => True) (fun _ => False) rfl rfl (Rr := itemK.K W) ?aO ?aR ?aP (fun _ hk => hk.elim) (fun _ _ => trivial) ?aB ?aS ?aL ?_
  case aO => exact ⟨fun _ _ => trivial, [], World.ownsRow_made W #[] 0 (Nat.le_refl _) (Nat.zero_le _) rfl, rfl, fun j p hj => by cases hj⟩
  case aR => exact Kd.C_below HL.out (below_one W _)
  case aP => exact fun x cs h => itemK_K h ▸ itemK_M _ _ _ x
  case aB => exact below_one W _
  case aS => exact (below_one W _).size
  case aL => simp; omega
  intro v1 w1 ho hb hg hat
  have HO := Lib.hid ho
  have HB := Lib.hid hb
  clear ho hb hg hat
  go_wp2
  go_ret
  exact ⟨_, rfl, HO.out, HB.out⟩
theorem clone_none (c : Nat) (W : World) : Calls Tryz.prog 44 #[.slice none 0 c] W fun e w' => e = .returned (.slice none 0 0) ∧ w' = W := by
  have q66 : ∀ (w : World) (a : Option Addr) (n c n' c' : Nat), (binOp .eql 22 (.slice a n c) (.slice none n' c')).run Tryz.prog w = .ok (.bool a.isNone) w := fun w a n c n' c' => Lib.run_eql_slice_nil w _ _ a n c n' c' Tryz.underlying22
  go_enter Tryz.func44, Tryz.ntmps44
  go_wp2
  go_ret
  exact ⟨rfl, rfl⟩
/-- slices.Clone of items: a row of one's own. -/
theorem clone_any (l : List It) (A : Option Addr) (c : Nat) (W : World) (hl : ItemC W A l) (hn : l.length ≤ 1000000) :
    Calls Tryz.prog 44 #[.slice A l.length c] W fun e w' => ∃ v1, e = .returned v1 ∧ itemK.R 33 w' W.heap.size (fun _ => True) v1 l ∧ Below W.heap.size W w' := by
  cases A with
  | some ad => exact clone_some l ad c W hl hn
  | none =>
    have h0 : l = [] := by
      cases l with
      | nil => rfl
      | cons x t => obtain ⟨ad, e, _⟩ := hl.2.2 (by simp); cases e
    subst h0
    refine (clone_none c W).mono ?_
    rintro e w' ⟨rfl, rfl⟩
    exact ⟨_, rfl, Kd.R_nil _ _ _ _ _, Below.refl _ _⟩
/-! ### the closures -/
set_option maxHeartbeats 1000000 in
theorem find1_any (x0 : ByteArray) (x1 x2 x3 x4 x5 x6 : Int) (x7 s : ByteArray) (bc : Nat) (w : World) (hc : w.cell? ⟨bc, 0, none⟩ = some (.string s)) :
    Calls Tryz.prog 48 #[.agg #[.string x0, .int .i64 x1, .int .u32 x2, .int .u32 x3, .int .u32 x4, .int .i64 x5, .int .i64 x6, .string x7], .pointer (some ⟨bc, 0, none⟩)] w fun e w' => e = .returned (.bool (decide (x0 = s))) ∧ Below w.heap.size w w' := by
  have hb1 := below_one w (.cells #[.string x0, .int .i64 x1, .int .u32 x2, .int .u32 x3, .int .u32 x4, .int .i64 x5, .int .i64 x6, .string x7] 33)
  have c1 : (w.alloc (.cells #[.string x0, .int .i64 x1, .int .u32 x2, .int .u32 x3, .int .u32 x4, .int .i64 x5, .int .i64 x6, .string x7] 33)).cell? ⟨w.heap.size, 0, none⟩ = some (.string x0) := by rw [cell_of (heap_new w _)]; rfl
  have c2 : (w.alloc (.cells #[.string x0, .int .i64 x1, .int .u32 x2, .int .u32 x3, .int .u32 x4, .int .i64 x5, .int .i64 x6, .string x7] 33)).cell? ⟨bc, 0, none⟩ = some (.string s) := pw_cell_below hb1 hc
  have HB1 := Lib.hid hb1
  clear hb1 hc
  go_enter Tryz.func48, Tryz.ntmps48
  go_wp2
  go_ret
  refine ⟨?_, HB1.out⟩
  simp only [toList_inj]
  rfl
set_option maxHeartbeats 1000000 in
theorem put1_any (x0 : ByteArray) (x1 x2 x3 x4 x5 x6 : Int) (x7 s : ByteArray) (bc : Nat) (w : World) (hc : w.cell? ⟨bc, 0, none⟩ = some (.string s)) :
    Calls Tryz.prog 57 #[.agg #[.string x0, .int .i64 x1, .int .u32 x2, .int .u32 x3, .int .u32 x4, .int .i64 x5, .int .i64 x6, .string x7], .pointer (some ⟨bc, 0, none⟩)] w fun e w' => e = .returned (.bool (decide (x0 = s))) ∧ Below w.heap.size w w' := by
  have hb1 := below_one w (.cells #[.string x0, .int .i64 x1, .int .u32 x2, .int .u32 x3, .int .u32 x4, .int .i64 x5, .int .i64 x6, .string x7] 33)
  have c1 : (w.alloc (.cells #[.string x0, .int .i64 x1, .int .u32 x2, .int .u32 x3, .int .u32 x4, .int .i64 x5, .int .i64 x6, .string x7] 33)).cell? ⟨w.heap.size, 0, none⟩ = some (.string x0) := by rw [cell_of (heap_new w _)]; rfl
  have c2 : (w.alloc (.cells #[.string x0, .int .i64 x1, .int .u32 x2, .int .u32 x3, .int .u32 x4, .int .i64 x5, .int .i64 x6, .string x7] 33)).cell? ⟨bc, 0, none⟩ = some (.string s) := pw_cell_below hb1 hc
  have HB1 := Lib.hid hb1
  clear hb1 hc
  go_enter Tryz.func57, Tryz.ntmps57
  go_wp2
  go_ret
  refine ⟨?_, HB1.out⟩
  simp only [toList_inj]
  rfl
set_option maxHeartbeats 1000000 in
theorem put2_any (x0 : ByteArray) (x1 x2 x3 x4 x5 x6 : Int) (x7 s : ByteArray) (bc : Nat) (w : World) (hg : Glob w) (h1 : x0.size < 4294967281) (h2 : s.size < 4294967281) (hc : w.cell? ⟨bc, 0, none⟩ = some (.string s)) :
    Calls Tryz.prog 58 #[.agg #[.string x0, .int .i64 x1, .int .u32 x2, .int .u32 x3, .int .u32 x4, .int .i64 x5, .int .i64 x6, .string x7], .pointer (some ⟨bc, 0, none⟩)] w fun e w' => e = .returned (.bool (decide (0 < orderT x0 s))) ∧ Below w.heap.size w w' := by
  have hb1 := below_one w (.cells #[.string x0, .int .i64 x1, .int .u32 x2, .int .u32 x3, .int .u32 x4, .int .i64 x5, .int .i64 x6, .string x7] 33)
  have c1 : (w.alloc (.cells #[.string x0, .int .i64 x1, .int .u32 x2, .int .u32 x3, .int .u32 x4, .int .i64 x5, .int .i64 x6, .string x7] 33)).cell? ⟨w.heap.size, 0, none⟩ = some (.string x0) := by rw [cell_of (heap_new w _)]; rfl
  have c2 : (w.alloc (.cells #[.string x0, .int .i64 x1, .int .u32 x2, .int .u32 x3, .int .u32 x4, .int .i64 x5, .int .i64 x6, .string x7] 33)).cell? ⟨bc, 0, none⟩ = some (.string s) := pw_cell_below hb1 hc
  have HB1 := Lib.hid hb1
  have HC := Lib.hid (order_any x0 s _ (hg.below hb1) h1 h2)
  clear hb1 hc hg
  generalize orderT x0 s = r at *
  go_enter Tryz.func58, Tryz.ntmps58
  go_wp2_with (go_at_call 55; refine HC.out.mono ?_; rintro e w1 ⟨rfl, hb⟩; have HB := Lib.hid (below_next HB1.out hb); clear hb)
  go_ret
  exact ⟨rfl, HB.out⟩
set_option maxHeartbeats 1000000 in
theorem drop1_any (x0 : ByteArray) (x1 x2 x3 x4 x5 x6 : Int) (x7 s : ByteArray) (bc : Nat) (w : World) (hc : w.cell? ⟨bc, 0, none⟩ = some (.string s)) :
    Calls Tryz.prog 60 #[.agg #[.string x0, .int .i64 x1, .int .u32 x2, .int .u32 x3, .int .u32 x4, .int .i64 x5, .int .i64 x6, .string x7], .pointer (some ⟨bc, 0, none⟩)] w fun e w' => e = .returned (.bool (underT x0 s)) ∧ Below w.heap.size w w' := by
  have hb1 := below_one w (.cells #[.string x0, .int .i64 x1, .int .u32 x2, .int .u32 x3, .int .u32 x4, .int .i64 x5, .int .i64 x6, .string x7] 33)
  have c1 : (w.alloc (.cells #[.string x0, .int .i64 x1, .int .u32 x2, .int .u32 x3, .int .u32 x4, .int .i64 x5, .int .i64 x6, .string x7] 33)).cell? ⟨w.heap.size, 0, none⟩ = some (.string x0) := by rw [cell_of (heap_new w _)]; rfl
  have c2 : (w.alloc (.cells #[.string x0, .int .i64 x1, .int .u32 x2, .int .u32 x3, .int .u32 x4, .int .i64 x5, .int .i64 x6, .string x7] 33)).cell? ⟨bc, 0, none⟩ = some (.string s) := pw_cell_below hb1 hc
  have HB1 := Lib.hid hb1
  have HC := Lib.hid (under_any x0 s (w.alloc (.cells #[.string x0, .int .i64 x1, .int .u32 x2, .int .u32 x3, .int .u32 x4, .int .i64 x5, .int .i64 x6, .string x7] 33)))
  clear hb1 hc
  generalize underT x0 s = r at *
  go_enter Tryz.func60, Tryz.ntmps60
  go_wp2_with (go_at_call 61; refine HC.out.mono ?_; rintro e w1 ⟨rfl, hb⟩; have HB := Lib.hid (below_of HB1.out hb); clear hb)
  go_ret
  exact ⟨rfl, HB.out⟩
/-! ### IndexFunc -/
/-- A closure over one cell answers p, wherever what was there at U still is. -/
def Asks (U : World) (F bc : Nat) (p : It → Bool) (l : List It) : Prop :=
  (∀ args w, (callFunc F args).run Tryz.prog w = .ok (.enter F args) w) ∧
  ∀ x0 x1 x2 x3 x4 x5 x6 x7, (x0, x1, x2, x3, x4, x5, x6, x7) ∈ l → ∀ W, Below U.heap.size U W → Calls Tryz.prog F #[.agg #[.string x0, .int .i64 x1, .int .u32 x2, .int .u32 x3, .int .u32 x4, .int .i64 x5, .int .i64 x6, .string x7], .pointer (some ⟨bc, 0, none⟩)] W fun e w' => e = .returned (.bool (p (x0, x1, x2, x3, x4, x5, x6, x7))) ∧ Below W.heap.size W w'
theorem Asks.later {U W : World} {F bc : Nat} {p : It → Bool} {l : List It} (h : Asks U F bc p l) (hb : Below U.heap.size U W) : Asks W F bc p l := ⟨h.1, fun x0 x1 x2 x3 x4 x5 x6 x7 hx V hV => h.2 x0 x1 x2 x3 x4 x5 x6 x7 hx V (hb.trans (hV.mono hb.size))⟩
def idxP (p : It → Bool) (l : List It) : Int := if l.findIdx p < l.length then (l.findIdx p : Int) else -1
theorem idx_at {p : It → Bool} {l : List It} {k : Nat} (hk : k < l.length) (h : ∀ j (hj : j < k), p (l[j]'(by omega)) = false) (hp : p l[k] = true) : l.findIdx p = k := by
  refine (List.findIdx_eq hk).2 ⟨hp, fun j hj => h j hj⟩
theorem idx_none {p : It → Bool} {l : List It} (h : ∀ j (hj : j < l.length), p l[j] = false) : l.findIdx p = l.length := by
  refine List.findIdx_eq_length.2 (fun x hx => ?_)
  obtain ⟨j, hj, e⟩ := List.mem_iff_getElem.1 hx
  rw [← e]; exact h j hj
set_option maxHeartbeats 2000000 in
theorem index_any (F bc : Nat) (p : It → Bool) (l : List It) (A : Option Addr) (c : Nat) (W : World) (hl : ItemC W A l) (hp : Asks W F bc p l) :
    Calls Tryz.prog 47 #[.slice A l.length c, .func (.func F) #[] #[.pointer (some ⟨bc, 0, none⟩)]] W fun e w' => e = .returned (.int .i64 (idxP p l)) ∧ Below W.heap.size W w' := by
  have HL := Lib.hid hl
  have l1 := hl.2.1
  have eg := hp.1
  have HP := Lib.hid hp.2
  have HK0 : Hid (∀ j (hj : j < l.length), j < 0 → p l[j] = false) := Lib.hid (fun j hj h => absurd h (Nat.not_lt_zero _))
  clear hl hp
  go_enter Tryz.func47, Tryz.ntmps47
  go_wp2
  go_loopw [5, 8] (fun vi v wr => ∃ k : Nat, k ≤ l.length ∧ v = .int .i64 k ∧ Hid (∀ j (hj : j < l.length), j < k → p l[j] = false) ∧ Hid (Below W.heap.size W wr)) (fun vi v _ => l.length - (intOf v).toNat)
  case atStart => exact ⟨0, by omega, rfl, HK0, Lib.hid (Below.refl _ _)⟩
  case round =>
    clear HK0
    obtain ⟨k, hk, rfl, HK, HB⟩ := hrel
    by_cases hlt : k < l.length
    · obtain ⟨ad, rfl, e0, e1, e2, e3, e4, e5, e6, e7⟩ := item_at (Kd.C_below HL.out HB.out) hlt
      have hltI : (k : Int) < l.length := by omega
      have hc := HP.out l[k].1 l[k].2.1 l[k].2.2.1 l[k].2.2.2.1 l[k].2.2.2.2.1 l[k].2.2.2.2.2.1 l[k].2.2.2.2.2.2.1 l[k].2.2.2.2.2.2.2 (List.getElem_mem hlt) wr HB.out
      have hpx : Hid (∃ q, q = p l[k]) := Lib.hid ⟨_, rfl⟩
      have HX : Hid (l[k] = l[k]) := Lib.hid rfl
      obtain ⟨x, hx⟩ : ∃ x, x = l[k] := ⟨_, rfl⟩
      rw [← hx] at e0 e1 e2 e3 e4 e5 e6 e7 hc
      have HXK := Lib.hid hx
      clear hx hpx HX
      obtain ⟨x0, x1, x2, x3, x4, x5, x6, x7⟩ := x
      simp only at e0 e1 e2 e3 e4 e5 e6 e7 hc
      obtain ⟨q, hq⟩ : ∃ q, q = p (x0, x1, x2, x3, x4, x5, x6, x7) := ⟨_, rfl⟩
      rw [← hq] at hc
      have HQ := Lib.hid hq
      have HC := Lib.hid hc
      clear hc hq
      cases q with
      | true =>
        have HI : Hid (idxP p l = (k : Int)) := Lib.hid (by
          have e := idx_at hlt (fun j hj => HK.out j (by omega) hj) (by rw [← HXK.out]; exact HQ.out.symm)
          unfold idxP
          rw [e, if_pos hlt])
        go_wp2_with (go_at_fn F; refine HC.out.mono ?_; rintro e w1 ⟨rfl, hb⟩; have HB1 := Lib.hid (below_next HB.out hb); clear hb)
        go_ret
        exact ⟨by rw [HI.out]; rfl, HB1.out⟩
      | false =>
        have HK1 : Hid (∀ j (hj : j < l.length), j < k + 1 → p l[j] = false) := Lib.hid (fun j hj h => by
          rcases Nat.lt_or_ge j k with h2 | h2
          · exact HK.out j hj h2
          · have : j = k := by omega
            subst this
            rw [← HXK.out]; exact HQ.out.symm)
        clear HXK HK HQ
        go_wp2_with (go_at_fn F; refine HC.out.mono ?_; rintro e w1 ⟨rfl, hb⟩; have HB1 := Lib.hid (below_next HB.out hb); clear hb)
        go_roundw
        case rel => exact ⟨k + 1, by omega, by go_num, HK1, HB1⟩
        case measure => simp [intOf]; omega
    · have HI : Hid (idxP p l = -1) := Lib.hid (by
        have e := idx_none (p := p) (l := l) (fun j hj => HK.out j hj (by omega))
        unfold idxP
        rw [e, if_neg (Nat.lt_irrefl _)])
      go_wp2
      go_ret
      exact ⟨by rw [HI.out]; rfl, HB.out⟩
end Go.Proofs.YtpjjooiamdfmfaaGreatDoor.TreeFn
