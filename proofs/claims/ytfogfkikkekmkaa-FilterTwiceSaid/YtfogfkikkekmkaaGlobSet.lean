/- glob: what is between the brackets. -/
import Derived.Test.YtfogfkikkekmkaaGlobTake
import Derived.Laws.Rows
set_option linter.unusedVariables false
set_option linter.unusedSimpArgs false
namespace Go.Proofs.Ytfogfkikkekmkaa.GlobSet
open Go.RowKit Go.Proofs.YtfogfkikkekmkaaW.PrintWords Go.Proofs.YtfogfkikkekmkaaW.PrintLast Go.Proofs.YtfogfkikkekmkaaW.PrintMore Go.Proofs.Ytfogfkikkekmkaa.GlobScan Go.Proofs.Ytfogfkikkekmkaa.GlobRunes Go.Proofs.Ytfogfkikkekmkaa.GlobLaw Go.Proofs.Ytfogfkikkekmkaa.GlobTake

theorem infoRange : (Try.prog.info? 67).map (fun i => (i.zero, i.size, i.bytes)) = some (some (.agg #[.int .i32 0, .int .i32 0]), 2, 8) := by kernel_rfl
theorem sizeAtom : (Try.prog.info? 60).map (·.size) = some 4 := by kernel_rfl
def zeroA : Array Value := #[.int .i64 0, .int .i32 0, .bool false, .slice none 0 0]
/-- What is there while a set is being read: n: the first new block (the result's; the atom is behind it). -/
structure SetInv (w wr : World) (n b : Nat) (neg : Bool) (v : Value) (acc : List (Int × Int)) (s : St) : Prop where
  scan : ScanAt wr b s.1 s.2
  atom : wr.heap[n + 1]? = some (.cells #[.int .i64 4, .int .i32 0, .bool neg, v] 60 (0, 0))
  res : wr.heap[n]? = some (.cells zeroA 60 (0, 0))
  row : rangeK.R 67 wr n (fun _ => True) v acc
  grown : w.grownBy wr (some b)
  lt : b < w.heap.size
  eq : n = w.heap.size
theorem heap_alloc_old (w : World) (o : Obj) {i : Nat} (h : i < w.heap.size) : (w.alloc o).heap[i]? = w.heap[i]? := by
  show (w.heap.push o)[i]? = _
  rw [Array.getElem?_push, if_neg (by omega)]
theorem grown_alloc {a b : World} {row : Option Nat} (h : a.grownBy b row) (o : Obj) : a.grownBy (b.alloc o) row :=
  grown_trans h ⟨rfl, rfl, rfl, by rw [size_alloc]; omega, fun i hi _ => heap_alloc_old b o hi⟩
theorem SetInv.start {w : World} {b : Nat} {l : List Int} {bad : Bool} (h : ScanAt w b l bad) :
    SetInv w ((w.alloc (.cells #[.int .i64 0, .int .i32 0, .bool false, .slice none 0 0] 60)).alloc (.cells #[.int .i64 4, .int .i32 0, .bool false, .slice none 0 0] 60)) w.heap.size b false (.slice none 0 0) [] (l, bad) where
  scan := h.below (two_allocs w _ _)
  atom := by rw [← size_alloc w (.cells #[.int .i64 0, .int .i32 0, .bool false, .slice none 0 0] 60)]; exact heap_alloc_new _ _
  res := by rw [heap_alloc_old _ _ (by rw [size_alloc]; omega)]; exact heap_alloc_new _ _
  row := Kd.R_nil _ _ _ _ _
  grown := grown_alloc (grown_alloc (grown_refl _ _) _) _
  lt := by obtain ⟨v, hb, _⟩ := h; exact (Array.getElem?_eq_some_iff.1 hb).1
  eq := rfl
section
variable {w wr w1 : World} {n b : Nat} {neg : Bool} {v : Value} {acc : List (Int × Int)} {s : St}
theorem SetInv.scan_typed (h : SetInv w wr n b neg v acc s) : ∃ cells, wr.heap[b]? = some (.cells cells 56 (0, 0)) := by
  obtain ⟨u, hb, _⟩ := h.scan
  exact ⟨_, hb⟩
theorem SetInv.call (h : SetInv w wr n b neg v acc s) {s' : St} (hg : wr.grownBy w1 (some b)) (hs : ScanAt w1 b s'.1 s'.2) : SetInv w w1 n b neg v acc s' where
  scan := hs
  atom := (hg.block _ (Array.getElem?_eq_some_iff.1 h.atom).1 (by have := h.lt; have := h.eq; simp; omega)).trans h.atom
  res := (hg.block _ (Array.getElem?_eq_some_iff.1 h.res).1 (by have := h.lt; have := h.eq; simp; omega)).trans h.res
  row := by
    obtain ⟨cells, hc⟩ := h.scan_typed
    exact Kd.R_grown1 h.row rfl hg (Kd.R_ne h.row hc (by decide))
  grown := grown_trans h.grown hg
  lt := h.lt
  eq := h.eq
theorem SetInv.drewN (h : SetInv w wr n b neg v acc s) (m : Nat) : SetInv w (wr.drewN m) n b neg v acc s where
  scan := h.scan
  atom := h.atom
  res := h.res
  row := Kd.R_below h.row (pw_below_drewN (Below.refl _ _) m)
  grown := grown_drewN h.grown m
  lt := h.lt
  eq := h.eq
theorem set_heap2 {w : World} {b : Nat} {x y z t u : Value} {ty : TypeId} (h : w.heap[b]? = some (.cells #[x, y, z, t] ty (0, 0))) : (w.setCell ⟨b, 2, none⟩ u).heap[b]? = some (.cells #[x, y, u, t] ty (0, 0)) := by
  simp [World.setCell, Array.getElem?_modify, h]
theorem set_heap3 {w : World} {b : Nat} {x y z t u : Value} {ty : TypeId} (h : w.heap[b]? = some (.cells #[x, y, z, t] ty (0, 0))) : (w.setCell ⟨b, 3, none⟩ u).heap[b]? = some (.cells #[x, y, z, u] ty (0, 0)) := by
  simp [World.setCell, Array.getElem?_modify, h]
theorem grown_new {a b c : World} {row r2 : Option Nat} (h : a.grownBy b row) (k : b.grownBy c r2) (hr : ∀ x, r2 = some x → a.heap.size ≤ x) : a.grownBy c row :=
  ⟨k.os.trans h.os, k.tape.trans h.tape, k.output.trans h.output, Nat.le_trans h.size k.size, fun i hi hn => (k.block i (Nat.lt_of_lt_of_le hi h.size) (fun e => by have := hr i e.symm; omega)).trans (h.block i hi hn)⟩
theorem SetInv.setneg (h : SetInv w wr n b neg v acc s) (u : Bool) : SetInv w (wr.setCell ⟨n + 1, 2, none⟩ (.bool u)) n b u v acc s where
  scan := h.scan.grown (row := some (n + 1)) (set_grown _ _ _ _) (by have := h.lt; have := h.eq; simp; omega) (fun k hk => by injection hk with hk; subst hk; exact .inr ⟨_, _, h.atom, by decide⟩)
  atom := set_heap2 h.atom
  res := (Below.heap_setCell wr ⟨n + 1, 2, none⟩ _ n (by simp)).trans h.res
  row := Kd.R_set h.row h.atom (by decide) 2 _
  grown := grown_new h.grown (set_grown _ _ _ _) (fun x hx => by injection hx with hx; have := h.eq; omega)
  lt := h.lt
  eq := h.eq
theorem SetInv.setbad (h : SetInv w wr n b neg v acc s) (u : Bool) : SetInv w (wr.setCell ⟨b, 1, none⟩ (.bool u)) n b neg v acc (s.1, u) := by
  refine h.call (set_grown _ _ _ _) ?_
  obtain ⟨x, hb, hl⟩ := h.scan
  exact ⟨x, set_heap1 hb, hl.set _ _⟩
theorem SetInv.app (h : SetInv w wr n b neg v acc s) {v1 : Value} {acc1 : List (Int × Int)} (hr : rangeK.R 67 w1 n (fun _ => True) v1 acc1) (hg : wr.grownBy w1 v.ownBlock) :
    SetInv w (w1.setCell ⟨n + 1, 3, none⟩ v1) n b neg v1 acc1 s := by
  obtain ⟨inner, ho⟩ := Kd.R_own h.row
  obtain ⟨sc, hsc⟩ := h.scan_typed
  have hb1 : some b ≠ v.ownBlock := Kd.R_ne h.row hsc (by decide)
  have ha1 : some (n + 1) ≠ v.ownBlock := Kd.R_ne h.row h.atom (by decide)
  have hr1 : some n ≠ v.ownBlock := Kd.R_ne h.row h.res (by decide)
  have at1 : w1.heap[n + 1]? = some (.cells #[.int .i64 4, .int .i32 0, .bool neg, v] 60 (0, 0)) := (hg.block _ (Array.getElem?_eq_some_iff.1 h.atom).1 ha1).trans h.atom
  have re1 : w1.heap[n]? = some (.cells zeroA 60 (0, 0)) := (hg.block _ (Array.getElem?_eq_some_iff.1 h.res).1 hr1).trans h.res
  have sc1 : ScanAt w1 b s.1 s.2 := h.scan.grown hg hb1 (fun k hk => by
    obtain ⟨cells, hc⟩ := own_typed ho k hk
    exact .inr ⟨_, _, hc, by decide⟩)
  exact {
    scan := sc1.grown (row := some (n + 1)) (set_grown _ _ _ _) (by have := h.lt; have := h.eq; simp; omega) (fun k hk => by injection hk with hk; subst hk; exact .inr ⟨_, _, at1, by decide⟩)
    atom := set_heap3 at1
    res := (Below.heap_setCell w1 ⟨n + 1, 3, none⟩ _ n (by simp)).trans re1
    row := Kd.R_set hr at1 (by decide) 3 _
    grown := grown_new (grown_new h.grown hg (fun x hx => by have := own_base ho x hx; have := h.eq; omega)) (set_grown _ _ _ _) (fun x hx => by injection hx with hx; have := h.eq; omega)
    lt := h.lt
    eq := h.eq }
theorem SetInv.c2 (h : SetInv w wr n b neg v acc s) : wr.cell? ⟨n + 1, 2, none⟩ = some (.bool neg) := by rw [cell_of h.atom]; rfl
theorem SetInv.c3 (h : SetInv w wr n b neg v acc s) : wr.cell? ⟨n + 1, 3, none⟩ = some v := by rw [cell_of h.atom]; rfl
theorem SetInv.bad (h : SetInv w wr n b neg v acc s) : wr.cell? ⟨b, 1, none⟩ = some (.bool s.2) := by
  obtain ⟨x, hb, hl⟩ := h.scan
  rw [cell_of hb]; rfl
theorem SetInv.fbad (h : SetInv w wr n b neg v acc s) : wr.frozen? ⟨b, 1, none⟩ = false := by
  obtain ⟨x, hb, hl⟩ := h.scan
  exact frozen_of hb 1
theorem SetInv.a0 (h : SetInv w wr n b neg v acc s) : wr.cell? ⟨n + 1, 0, none⟩ = some (.int .i64 4) := by rw [cell_of h.atom]; rfl
theorem SetInv.a1 (h : SetInv w wr n b neg v acc s) : wr.cell? ⟨n + 1, 1, none⟩ = some (.int .i32 0) := by rw [cell_of h.atom]; rfl
theorem SetInv.r0 (h : SetInv w wr n b neg v acc s) : wr.cell? ⟨n, 0, none⟩ = some (.int .i64 0) := by rw [cell_of h.res]; rfl
theorem SetInv.r1 (h : SetInv w wr n b neg v acc s) : wr.cell? ⟨n, 1, none⟩ = some (.int .i32 0) := by rw [cell_of h.res]; rfl
theorem SetInv.r2 (h : SetInv w wr n b neg v acc s) : wr.cell? ⟨n, 2, none⟩ = some (.bool false) := by rw [cell_of h.res]; rfl
theorem SetInv.r3 (h : SetInv w wr n b neg v acc s) : wr.cell? ⟨n, 3, none⟩ = some (.slice none 0 0) := by rw [cell_of h.res]; rfl
theorem SetInv.rz (h : SetInv w wr n b neg v acc s) (j : Nat) : wr.frozen? ⟨n, j, none⟩ = false := frozen_of h.res j
theorem SetInv.fz (h : SetInv w wr n b neg v acc s) (j : Nat) : wr.frozen? ⟨n + 1, j, none⟩ = false := frozen_of h.atom j
end
theorem set_heap40 {w : World} {b : Nat} {x y z t u : Value} {ty : TypeId} (h : w.heap[b]? = some (.cells #[x, y, z, t] ty (0, 0))) : (w.setCell ⟨b, 0, none⟩ u).heap[b]? = some (.cells #[u, y, z, t] ty (0, 0)) := by
  simp [World.setCell, Array.getElem?_modify, h]
theorem set_heap41 {w : World} {b : Nat} {x y z t u : Value} {ty : TypeId} (h : w.heap[b]? = some (.cells #[x, y, z, t] ty (0, 0))) : (w.setCell ⟨b, 1, none⟩ u).heap[b]? = some (.cells #[x, u, z, t] ty (0, 0)) := by
  simp [World.setCell, Array.getElem?_modify, h]
/-- The result's cells are being written. -/
structure ResInv (w wr : World) (n b : Nat) (cs : Array Value) (v : Value) (acc : List (Int × Int)) (s : St) : Prop where
  scan : ScanAt wr b s.1 s.2
  res : wr.heap[n]? = some (.cells cs 60 (0, 0))
  row : rangeK.R 67 wr n (fun _ => True) v acc
  grown : w.grownBy wr (some b)
  lt : b < w.heap.size
  eq : n = w.heap.size
theorem ResInv.set {w wr : World} {n b : Nat} {cs : Array Value} {v : Value} {acc : List (Int × Int)} {s : St} (h : ResInv w wr n b cs v acc s) (j : Nat) (u : Value) (cs' : Array Value)
    (hc : (wr.setCell ⟨n, j, none⟩ u).heap[n]? = some (.cells cs' 60 (0, 0))) : ResInv w (wr.setCell ⟨n, j, none⟩ u) n b cs' v acc s where
  scan := h.scan.grown (row := some n) (set_grown _ _ _ _) (by have := h.lt; have := h.eq; simp; omega) (fun k hk => by injection hk with hk; subst hk; exact .inr ⟨_, _, h.res, by decide⟩)
  res := hc
  row := Kd.R_set h.row h.res (by decide) j u
  grown := grown_new h.grown (set_grown _ _ _ _) (fun x hx => by injection hx with hx; have := h.eq; omega)
  lt := h.lt
  eq := h.eq
theorem SetInv.fin {w wr : World} {n b : Nat} {neg : Bool} {v : Value} {acc : List (Int × Int)} {s : St} (h : SetInv w wr n b neg v acc s) :
    ResInv w ((((wr.setCell ⟨n, 0, none⟩ (.int .i64 4)).setCell ⟨n, 1, none⟩ (.int .i32 0)).setCell ⟨n, 2, none⟩ (.bool neg)).setCell ⟨n, 3, none⟩ v) n b #[.int .i64 4, .int .i32 0, .bool neg, v] v acc s := by
  have h0 : ResInv w wr n b #[.int .i64 0, .int .i32 0, .bool false, .slice none 0 0] v acc s := ⟨h.scan, h.res, h.row, h.grown, h.lt, h.eq⟩
  have h1 := h0.set 0 (.int .i64 4) _ (set_heap40 h0.res)
  have h2 := h1.set 1 (.int .i32 0) _ (set_heap41 h1.res)
  have h3 := h2.set 2 (.bool neg) _ (set_heap2 h2.res)
  exact h3.set 3 v _ (set_heap3 h3.res)
theorem SetInv.after {w wr w1 : World} {n b : Nat} {neg : Bool} {v : Value} {acc : List (Int × Int)} {s : St} (h : SetInv w wr n b neg v acc s) (hg : wr.grownBy w1 v.ownBlock) :
    w1.cell? ⟨n + 1, 3, none⟩ = some v ∧ w1.frozen? ⟨n + 1, 3, none⟩ = false := by
  have ha1 : some (n + 1) ≠ v.ownBlock := Kd.R_ne h.row h.atom (by decide)
  have at1 : w1.heap[n + 1]? = some (.cells #[.int .i64 4, .int .i32 0, .bool neg, v] 60 (0, 0)) := (hg.block _ (Array.getElem?_eq_some_iff.1 h.atom).1 ha1).trans h.atom
  exact ⟨by rw [cell_of at1]; rfl, frozen_of at1 3⟩
theorem scan_one {w : World} {b : Nat} {x : Int} {bad : Bool} (h : ScanAt w b [x] bad) : ∃ A c, w.cell? ⟨b, 0, none⟩ = some (.slice A 1 c) := by
  obtain ⟨v, hb, A, c, rfl, _⟩ := h
  exact ⟨A, c, by rw [cell_of hb]; rfl⟩
theorem scan_two {w : World} {b : Nat} {x y : Int} {t : List Int} {bad : Bool} (h : ScanAt w b (x :: y :: t) bad) :
    ∃ g o c, ∃ n : Nat, w.cell? ⟨b, 0, none⟩ = some (.slice (some ⟨g, o, none⟩) n c) ∧ w.cell? ⟨g, o + 1, none⟩ = some (.int .i32 y) ∧ (1 : Int) < n := by
  obtain ⟨v, hb, A, c, rfl, _, _, h4⟩ := h
  obtain ⟨g, o, rfl, _, hc⟩ := h4 (by simp)
  exact ⟨g, o, c, _, by rw [cell_of hb]; rfl, hc 1 (by simp), by simp; omega⟩
theorem setP_of {s : St} {neg : Bool} {R : St × List (Int × Int)} {s0 : St} (h : (seesL s.1 33 || seesL s.1 94) = neg) (h0 : (if neg = true then nextS s else s) = s0) (hR : setLoop (s0.1.length + 2) s0 true [] = some R) : setP s = ((4, 0, neg, R.2), nextS R.1) := by
  unfold setP
  simp only [h, h0, hR]
theorem oneR_no {sl : List Int} {lo : Int} {s1 : St} (h1 : s1 = plainS (sl, false)) (hlo : lo = plainR sl) (hd : dash s1 = false) : oneR (sl, false) = ((lo, lo), (s1.1, s1.2 || decide (lo < lo))) := by
  subst h1 hlo
  unfold oneR
  simp only [hd]
  rfl
theorem oneR_yes {sl : List Int} {lo : Int} {s1 : St} (h1 : s1 = plainS (sl, false)) (hlo : lo = plainR sl) (hd : dash s1 = true) :
    oneR (sl, false) = ((lo, plainR (nextS s1).1), ((plainS (nextS s1)).1, (plainS (nextS s1)).2 || decide (plainR (nextS s1).1 < lo))) := by
  subst h1 hlo
  unfold oneR
  simp only [hd, if_true]
set_option maxHeartbeats 8000000 in
theorem set_any (b : Nat) (l : List Int) (bad : Bool) (w : World) (hl : l.length ≤ 1000000) (h : ScanAt w b l bad) :
    Calls Try.prog 18 #[.pointer (some ⟨b, 0, none⟩)] w fun e w' => ∃ neg rs v s', e = .returned (.agg #[.int .i64 4, .int .i32 0, .bool neg, v]) ∧ setP (l, bad) = ((4, 0, neg, rs), s') ∧ rangeK.R 67 w' w.heap.size (fun _ => True) v rs ∧ ScanAt w' b s'.1 s'.2 ∧ w.grownBy w' (some b) := by
  have HC : Hid (∀ W r, ScanAt W b l bad → Calls Try.prog 22 #[.pointer (some ⟨b, 0, none⟩), .int .i32 r] W fun e w' => e = .returned (.bool (seesL l r)) ∧ Drawn0 W w') := Lib.hid (fun W r hW => sees_any b l bad r W hW)
  have HI0 := Lib.hid (SetInv.start h)
  go_enter Try.func18, Try.ntmps18
  go_wp2_with fail
  rename_i Q1 K2 h2 K1 h1 K0 h0
  have tail : ∀ (x8 x9 x10 x11 x12 x13 x14 x15 x16 : Value) (W : World) (neg : Bool) (s0 : St) (R : St × List (Int × Int)), s0.1.length ≤ 1000000 → Hid (SetInv w W w.heap.size b neg (.slice none 0 0) [] s0) → Hid (setLoop (s0.1.length + 2) s0 true [] = some R) → Hid (setP (l, bad) = ((4, 0, neg, R.2), nextS R.1)) →
      K2 { tmps := #[.pointer (some ⟨b, 0, none⟩), undef, .pointer (some ⟨w.heap.size, 0, none⟩), .pointer (some ⟨w.heap.size + 1, 0, none⟩), undef, undef, undef, .agg #[.int .i64 4, .int .i32 0, .bool false, .slice none 0 0], x8, x9, x10, x11, x12, x13, x14, x15, x16, undef, undef, undef, undef, undef, undef, undef, undef, undef, undef, undef, undef, undef, undef, undef, undef, undef, undef, undef, undef, undef, undef, undef, undef, undef, undef, undef, undef, undef, undef, undef, undef, undef, undef, undef, undef, undef, undef, undef, undef, undef, undef, undef, undef, undef, undef, undef, undef, undef, undef, undef, undef, undef, undef, undef, undef, undef, undef, undef, undef, undef, undef], defers := [] } W := by
    clear h1 h0 K1 K0 HC HI0
    intro x8 x9 x10 x11 x12 x13 x14 x15 x16 W neg s0 R hl0 HI HL HP
    refine h2 _ _ ?_
    clear h2 K2
    obtain ⟨F, hF⟩ : ∃ F, F = s0.1.length + 2 := ⟨_, rfl⟩
    rw [← hF] at HL
    go_wp2
    go_loopg [4] F (fun g vf wr => ∃ (fst : Bool) (v : Value) (acc : List (Int × Int)) (s : St), vf = .bool fst ∧ acc.length + g ≤ 1000002 ∧ Hid (setLoop g s fst acc = some R) ∧ Hid (SetInv w wr w.heap.size b neg v acc s))
    case atStart => exact ⟨true, .slice none 0 0, [], s0, rfl, by simp; omega, HL, HI⟩
    case round =>
      clear HL HI
      obtain ⟨fst, v, acc, ⟨sl, sb⟩, rfl, hlen, HL, HI⟩ := hrel
      cases gk with
      | zero => exact absurd HL.out (by simp [setLoop])
      | succ g =>
        have hM := HL.out
        clear HL
        unfold setLoop at hM
        have cb := HI.out.bad
        simp only at cb
        have HC93 : Hid (∀ W, ScanAt W b sl sb → Calls Try.prog 22 #[.pointer (some ⟨b, 0, none⟩), .int .i32 93] W fun e w' => e = .returned (.bool (seesL sl 93)) ∧ Drawn0 W w') := Lib.hid (fun W hW => sees_any b sl sb 93 W hW)
        cases fst with
        | true =>
          cases sb with
          | true =>
            rw [if_neg (by simp)] at hM
            have HM := Lib.hid (Option.some.inj hM)
            clear hM
            go_wp2_with fail
            refine (next_any b sl true _ HI.out.scan).mono ?_
            rintro e w5 ⟨rfl, hs5, hg5⟩
            have HI5 := Lib.hid (HI.out.call (s' := nextS (sl, true)) hg5 hs5)
            clear hs5 hg5 HI cb
            obtain ⟨A5, c5, rfl⟩ := Kd.R_slice HI5.out.row
            have d0 := HI5.out.a0
            have d1 := HI5.out.a1
            have d2 := HI5.out.c2
            have d3 := HI5.out.c3
            have r0 := HI5.out.r0
            have r1 := HI5.out.r1
            have r2 := HI5.out.r2
            have r3 := HI5.out.r3
            have z0 := HI5.out.rz 0
            have z1 := HI5.out.rz 1
            have z2 := HI5.out.rz 2
            have z3 := HI5.out.rz 3
            go_wp2
            have H6 := Lib.hid HI5.out.fin
            clear HI5 d0 d1 d2 d3 r0 r1 r2 r3 z0 z1 z2 z3
            generalize (((w5.setCell ⟨w.heap.size, 0, none⟩ (.int .i64 4)).setCell ⟨w.heap.size, 1, none⟩ (.int .i32 0)).setCell ⟨w.heap.size, 2, none⟩ (.bool neg)).setCell ⟨w.heap.size, 3, none⟩ (.slice A5 acc.length c5) = w6 at H6 ⊢
            (try simp only [Exit.inBlock, Exit.then])
            refine bodyPost_ret (results_cell_row (ty := 60) rfl _ _ w.heap.size _ _ _ _ rfl H6.out.res Try.underlying60 rfl sizeAtom) rfl ?_
            exact ⟨neg, R.2, _, _, rfl, HP.out, by rw [← HM.out]; exact H6.out.row, by rw [← HM.out]; exact H6.out.scan, H6.out.grown⟩

          | false =>
            rw [if_pos (by simp)] at hM
            have HM := Lib.hid hM
            clear hM
            go_wp2_with fail
            refine (plain_any b sl false _ HI.out.scan).mono ?_
            rintro e w2 ⟨rfl, hs2, hg2⟩
            have HI2 := Lib.hid (HI.out.call (s' := plainS (sl, false)) hg2 hs2)
            clear hs2 hg2 HI cb
            obtain ⟨lo, hlo⟩ : ∃ lo, lo = plainR sl := ⟨_, rfl⟩
            rw [← hlo]
            obtain ⟨s1, hs1⟩ : ∃ s1, s1 = plainS (sl, false) := ⟨_, rfl⟩
            rw [← hs1] at HI2
            obtain ⟨l1, b1⟩ := s1
            have HLO := Lib.hid hlo
            have HS1 := Lib.hid hs1
            clear hlo hs1
            have HCs : Hid (Calls Try.prog 22 #[.pointer (some ⟨b, 0, none⟩), .int .i32 45] w2 fun e w' => e = .returned (.bool (seesL l1 45)) ∧ Drawn0 w2 w') := Lib.hid (sees_any b l1 b1 45 w2 HI2.out.scan)
            go_wp2_with fail
            rename_i K2 h2 K1 h1 K0 h0
            have H2 := Lib.hid h2
            clear h2
            cases q45 : seesL l1 45 with
            | false =>
              have HD := Lib.hid (show dash (l1, b1) = false by unfold dash; simp [q45])
              rw [q45] at HCs
              clear q45
              refine HCs.out.mono ?_
              rintro e w3 ⟨rfl, ⟨m3, rfl⟩⟩
              have HI3 := Lib.hid (HI2.out.drewN m3)
              generalize w2.drewN m3 = w3 at HI3 ⊢
              clear HI2
              have HONE := Lib.hid (oneR_no HS1.out HLO.out HD.out)
              go_wp2
              cases b1 with
              | true =>
                have cb3 := HI3.out.bad
                simp only at cb3
                have fb3 := HI3.out.fbad
                refine H2.out _ _ (wp_seq_k (fun K14 h14 => ?_))
                have H14 := Lib.hid h14
                clear h14
                go_wp2
                have HI4 := Lib.hid (HI3.out.setbad true)
                simp only at HI4
                generalize w3.setCell ⟨b, 1, none⟩ (.bool true) = w4 at HI4 ⊢
                have c34 := HI4.out.c3
                have HONE : Hid (oneR (sl, false) = ((lo, lo), (l1, true))) := Lib.hid (by rw [HONE.out]; first | rfl | (simp; done) | (simp; omega))
                refine H14.out _ _ ?_
                clear H14 H2 cb3 fb3 HI3
                go_wp2_with (first | ((with_reducible refine gate_builtin (b := .append) (xs := #[.tmp 69, .tmp 73]) rfl ?_); at_builtin; refine Kd.R_append rangeK (w0 := w4) w.heap.size rfl (.tmp 69) (.tmp 73) 58 67 (.agg #[.int .i32 0, .int .i32 0]) 8 rfl Try.underlying58 infoRange rfl (by decide) (by decide) _ acc (lo, lo) [.int .i32 lo, .int .i32 lo] (fun _ => True) (fun _ => False) rfl rfl ?aP (fun _ hk => hk.elim) ?aF ?aO ?aB ?aS ?aL ?_; (case aP => exact ⟨[_], [_], rfl, rfl, rfl⟩); (case aB => exact Below.refl _ _); (case aF => exact (fun _ _ => trivial)); (case aO => exact HI4.out.row); (case aS => exact (by rw [HI4.out.eq]; exact HI4.out.grown.size)); (case aL => omega); intro v1 w5 ho hb hg hat; obtain ⟨A1, c1, hv1⟩ := Kd.R_slice ho; generalize (acc ++ [(lo, lo)]).length = N at hv1; subst hv1; have HO := Lib.hid ho; have HG := Lib.hid hg; clear ho hb hg hat; have g1 := (HI4.out.after HG.out).1; have g2 := (HI4.out.after HG.out).2))
                go_roundg g
                case measure => omega
                case rel => exact ⟨false, .slice A1 N c1, acc ++ [(lo, lo)], (l1, true), rfl, by rw [List.length_append, List.length_singleton]; omega, Lib.hid (by have := HM.out; rw [HONE.out] at this; exact this), Lib.hid (HI4.out.app HO.out HG.out)⟩

              | false =>
                have cb3 := HI3.out.bad
                simp only at cb3
                have fb3 := HI3.out.fbad
                refine H2.out _ _ (wp_seq_k (fun K14 h14 => ?_))
                have H14 := Lib.hid h14
                clear h14
                go_wp2
                have HI4 := Lib.hid (HI3.out.setbad false)
                simp only at HI4
                generalize w3.setCell ⟨b, 1, none⟩ (.bool false) = w4 at HI4 ⊢
                have c34 := HI4.out.c3
                have HONE : Hid (oneR (sl, false) = ((lo, lo), (l1, false))) := Lib.hid (by rw [HONE.out]; first | rfl | (simp; done) | (simp; omega))
                refine H14.out _ _ ?_
                clear H14 H2 cb3 fb3 HI3
                go_wp2_with (first | ((with_reducible refine gate_builtin (b := .append) (xs := #[.tmp 69, .tmp 73]) rfl ?_); at_builtin; refine Kd.R_append rangeK (w0 := w4) w.heap.size rfl (.tmp 69) (.tmp 73) 58 67 (.agg #[.int .i32 0, .int .i32 0]) 8 rfl Try.underlying58 infoRange rfl (by decide) (by decide) _ acc (lo, lo) [.int .i32 lo, .int .i32 lo] (fun _ => True) (fun _ => False) rfl rfl ?aP (fun _ hk => hk.elim) ?aF ?aO ?aB ?aS ?aL ?_; (case aP => exact ⟨[_], [_], rfl, rfl, rfl⟩); (case aB => exact Below.refl _ _); (case aF => exact (fun _ _ => trivial)); (case aO => exact HI4.out.row); (case aS => exact (by rw [HI4.out.eq]; exact HI4.out.grown.size)); (case aL => omega); intro v1 w5 ho hb hg hat; obtain ⟨A1, c1, hv1⟩ := Kd.R_slice ho; generalize (acc ++ [(lo, lo)]).length = N at hv1; subst hv1; have HO := Lib.hid ho; have HG := Lib.hid hg; clear ho hb hg hat; have g1 := (HI4.out.after HG.out).1; have g2 := (HI4.out.after HG.out).2))
                go_roundg g
                case measure => omega
                case rel => exact ⟨false, .slice A1 N c1, acc ++ [(lo, lo)], (l1, false), rfl, by rw [List.length_append, List.length_singleton]; omega, Lib.hid (by have := HM.out; rw [HONE.out] at this; exact this), Lib.hid (HI4.out.app HO.out HG.out)⟩

            | true =>
              cases l1 with
              | nil => exact absurd q45 (by simp [seesL])
              | cons x t =>
                cases t with
                | nil =>
                  have HD := Lib.hid (show dash ([x], b1) = false by unfold dash; simp)
                  rw [q45] at HCs
                  clear q45
                  refine HCs.out.mono ?_
                  rintro e w3 ⟨rfl, ⟨m3, rfl⟩⟩
                  have HI3 := Lib.hid (HI2.out.drewN m3)
                  generalize w2.drewN m3 = w3 at HI3 ⊢
                  clear HI2
                  have HONE := Lib.hid (oneR_no HS1.out HLO.out HD.out)
                  obtain ⟨Al, cl, hc0⟩ := scan_one HI3.out.scan
                  go_wp2
                  clear hc0
                  cases b1 with
                  | true =>
                    have cb3 := HI3.out.bad
                    simp only at cb3
                    have fb3 := HI3.out.fbad
                    refine H2.out _ _ (wp_seq_k (fun K14 h14 => ?_))
                    have H14 := Lib.hid h14
                    clear h14
                    go_wp2
                    have HI4 := Lib.hid (HI3.out.setbad true)
                    simp only at HI4
                    generalize w3.setCell ⟨b, 1, none⟩ (.bool true) = w4 at HI4 ⊢
                    have c34 := HI4.out.c3
                    have HONE : Hid (oneR (sl, false) = ((lo, lo), ([x], true))) := Lib.hid (by rw [HONE.out]; first | rfl | (simp; done) | (simp; omega))
                    refine H14.out _ _ ?_
                    clear H14 H2 cb3 fb3 HI3
                    go_wp2_with (first | ((with_reducible refine gate_builtin (b := .append) (xs := #[.tmp 69, .tmp 73]) rfl ?_); at_builtin; refine Kd.R_append rangeK (w0 := w4) w.heap.size rfl (.tmp 69) (.tmp 73) 58 67 (.agg #[.int .i32 0, .int .i32 0]) 8 rfl Try.underlying58 infoRange rfl (by decide) (by decide) _ acc (lo, lo) [.int .i32 lo, .int .i32 lo] (fun _ => True) (fun _ => False) rfl rfl ?aP (fun _ hk => hk.elim) ?aF ?aO ?aB ?aS ?aL ?_; (case aP => exact ⟨[_], [_], rfl, rfl, rfl⟩); (case aB => exact Below.refl _ _); (case aF => exact (fun _ _ => trivial)); (case aO => exact HI4.out.row); (case aS => exact (by rw [HI4.out.eq]; exact HI4.out.grown.size)); (case aL => omega); intro v1 w5 ho hb hg hat; obtain ⟨A1, c1, hv1⟩ := Kd.R_slice ho; generalize (acc ++ [(lo, lo)]).length = N at hv1; subst hv1; have HO := Lib.hid ho; have HG := Lib.hid hg; clear ho hb hg hat; have g1 := (HI4.out.after HG.out).1; have g2 := (HI4.out.after HG.out).2))
                    go_roundg g
                    case measure => omega
                    case rel => exact ⟨false, .slice A1 N c1, acc ++ [(lo, lo)], ([x], true), rfl, by rw [List.length_append, List.length_singleton]; omega, Lib.hid (by have := HM.out; rw [HONE.out] at this; exact this), Lib.hid (HI4.out.app HO.out HG.out)⟩

                  | false =>
                    have cb3 := HI3.out.bad
                    simp only at cb3
                    have fb3 := HI3.out.fbad
                    refine H2.out _ _ (wp_seq_k (fun K14 h14 => ?_))
                    have H14 := Lib.hid h14
                    clear h14
                    go_wp2
                    have HI4 := Lib.hid (HI3.out.setbad false)
                    simp only at HI4
                    generalize w3.setCell ⟨b, 1, none⟩ (.bool false) = w4 at HI4 ⊢
                    have c34 := HI4.out.c3
                    have HONE : Hid (oneR (sl, false) = ((lo, lo), ([x], false))) := Lib.hid (by rw [HONE.out]; first | rfl | (simp; done) | (simp; omega))
                    refine H14.out _ _ ?_
                    clear H14 H2 cb3 fb3 HI3
                    go_wp2_with (first | ((with_reducible refine gate_builtin (b := .append) (xs := #[.tmp 69, .tmp 73]) rfl ?_); at_builtin; refine Kd.R_append rangeK (w0 := w4) w.heap.size rfl (.tmp 69) (.tmp 73) 58 67 (.agg #[.int .i32 0, .int .i32 0]) 8 rfl Try.underlying58 infoRange rfl (by decide) (by decide) _ acc (lo, lo) [.int .i32 lo, .int .i32 lo] (fun _ => True) (fun _ => False) rfl rfl ?aP (fun _ hk => hk.elim) ?aF ?aO ?aB ?aS ?aL ?_; (case aP => exact ⟨[_], [_], rfl, rfl, rfl⟩); (case aB => exact Below.refl _ _); (case aF => exact (fun _ _ => trivial)); (case aO => exact HI4.out.row); (case aS => exact (by rw [HI4.out.eq]; exact HI4.out.grown.size)); (case aL => omega); intro v1 w5 ho hb hg hat; obtain ⟨A1, c1, hv1⟩ := Kd.R_slice ho; generalize (acc ++ [(lo, lo)]).length = N at hv1; subst hv1; have HO := Lib.hid ho; have HG := Lib.hid hg; clear ho hb hg hat; have g1 := (HI4.out.after HG.out).1; have g2 := (HI4.out.after HG.out).2))
                    go_roundg g
                    case measure => omega
                    case rel => exact ⟨false, .slice A1 N c1, acc ++ [(lo, lo)], ([x], false), rfl, by rw [List.length_append, List.length_singleton]; omega, Lib.hid (by have := HM.out; rw [HONE.out] at this; exact this), Lib.hid (HI4.out.app HO.out HG.out)⟩

                | cons y t =>
                  by_cases hy : y = 93
                  · have HD := Lib.hid (show dash (x :: y :: t, b1) = false by unfold dash; simp [hy])
                    rw [q45] at HCs
                    clear q45
                    have qy : (y != 93) = false := by simp [hy]
                    have qz : (y == 93) = true := by simp [hy]
                    refine HCs.out.mono ?_
                    rintro e w3 ⟨rfl, ⟨m3, rfl⟩⟩
                    have HI3 := Lib.hid (HI2.out.drewN m3)
                    generalize w2.drewN m3 = w3 at HI3 ⊢
                    clear HI2
                    have HONE := Lib.hid (oneR_no HS1.out HLO.out HD.out)
                    obtain ⟨gl, ol, cl, nl, hc0, hc1, hn1⟩ := scan_two HI3.out.scan
                    clear hy
                    generalize hL1 : x :: y :: t = l1 at *
                    clear hL1
                    go_wp2
                    clear hc0 hc1 qy qz
                    cases b1 with
                    | true =>
                      have cb3 := HI3.out.bad
                      simp only at cb3
                      have fb3 := HI3.out.fbad
                      refine H2.out _ _ (wp_seq_k (fun K14 h14 => ?_))
                      have H14 := Lib.hid h14
                      clear h14
                      go_wp2
                      have HI4 := Lib.hid (HI3.out.setbad true)
                      simp only at HI4
                      generalize w3.setCell ⟨b, 1, none⟩ (.bool true) = w4 at HI4 ⊢
                      have c34 := HI4.out.c3
                      have HONE : Hid (oneR (sl, false) = ((lo, lo), (l1, true))) := Lib.hid (by rw [HONE.out]; first | rfl | (simp; done) | (simp; omega))
                      refine H14.out _ _ ?_
                      clear H14 H2 cb3 fb3 HI3
                      go_wp2_with (first | ((with_reducible refine gate_builtin (b := .append) (xs := #[.tmp 69, .tmp 73]) rfl ?_); at_builtin; refine Kd.R_append rangeK (w0 := w4) w.heap.size rfl (.tmp 69) (.tmp 73) 58 67 (.agg #[.int .i32 0, .int .i32 0]) 8 rfl Try.underlying58 infoRange rfl (by decide) (by decide) _ acc (lo, lo) [.int .i32 lo, .int .i32 lo] (fun _ => True) (fun _ => False) rfl rfl ?aP (fun _ hk => hk.elim) ?aF ?aO ?aB ?aS ?aL ?_; (case aP => exact ⟨[_], [_], rfl, rfl, rfl⟩); (case aB => exact Below.refl _ _); (case aF => exact (fun _ _ => trivial)); (case aO => exact HI4.out.row); (case aS => exact (by rw [HI4.out.eq]; exact HI4.out.grown.size)); (case aL => omega); intro v1 w5 ho hb hg hat; obtain ⟨A1, c1, hv1⟩ := Kd.R_slice ho; generalize (acc ++ [(lo, lo)]).length = N at hv1; subst hv1; have HO := Lib.hid ho; have HG := Lib.hid hg; clear ho hb hg hat; have g1 := (HI4.out.after HG.out).1; have g2 := (HI4.out.after HG.out).2))
                      go_roundg g
                      case measure => omega
                      case rel => exact ⟨false, .slice A1 N c1, acc ++ [(lo, lo)], (l1, true), rfl, by rw [List.length_append, List.length_singleton]; omega, Lib.hid (by have := HM.out; rw [HONE.out] at this; exact this), Lib.hid (HI4.out.app HO.out HG.out)⟩

                    | false =>
                      have cb3 := HI3.out.bad
                      simp only at cb3
                      have fb3 := HI3.out.fbad
                      refine H2.out _ _ (wp_seq_k (fun K14 h14 => ?_))
                      have H14 := Lib.hid h14
                      clear h14
                      go_wp2
                      have HI4 := Lib.hid (HI3.out.setbad false)
                      simp only at HI4
                      generalize w3.setCell ⟨b, 1, none⟩ (.bool false) = w4 at HI4 ⊢
                      have c34 := HI4.out.c3
                      have HONE : Hid (oneR (sl, false) = ((lo, lo), (l1, false))) := Lib.hid (by rw [HONE.out]; first | rfl | (simp; done) | (simp; omega))
                      refine H14.out _ _ ?_
                      clear H14 H2 cb3 fb3 HI3
                      go_wp2_with (first | ((with_reducible refine gate_builtin (b := .append) (xs := #[.tmp 69, .tmp 73]) rfl ?_); at_builtin; refine Kd.R_append rangeK (w0 := w4) w.heap.size rfl (.tmp 69) (.tmp 73) 58 67 (.agg #[.int .i32 0, .int .i32 0]) 8 rfl Try.underlying58 infoRange rfl (by decide) (by decide) _ acc (lo, lo) [.int .i32 lo, .int .i32 lo] (fun _ => True) (fun _ => False) rfl rfl ?aP (fun _ hk => hk.elim) ?aF ?aO ?aB ?aS ?aL ?_; (case aP => exact ⟨[_], [_], rfl, rfl, rfl⟩); (case aB => exact Below.refl _ _); (case aF => exact (fun _ _ => trivial)); (case aO => exact HI4.out.row); (case aS => exact (by rw [HI4.out.eq]; exact HI4.out.grown.size)); (case aL => omega); intro v1 w5 ho hb hg hat; obtain ⟨A1, c1, hv1⟩ := Kd.R_slice ho; generalize (acc ++ [(lo, lo)]).length = N at hv1; subst hv1; have HO := Lib.hid ho; have HG := Lib.hid hg; clear ho hb hg hat; have g1 := (HI4.out.after HG.out).1; have g2 := (HI4.out.after HG.out).2))
                      go_roundg g
                      case measure => omega
                      case rel => exact ⟨false, .slice A1 N c1, acc ++ [(lo, lo)], (l1, false), rfl, by rw [List.length_append, List.length_singleton]; omega, Lib.hid (by have := HM.out; rw [HONE.out] at this; exact this), Lib.hid (HI4.out.app HO.out HG.out)⟩

                  · have HD := Lib.hid (show dash (x :: y :: t, b1) = true by unfold dash; rw [q45]; simp [hy])
                    rw [q45] at HCs
                    clear q45
                    have qy : (y != 93) = true := by simp [hy]
                    have qz : (y == 93) = false := by simp [hy]
                    refine HCs.out.mono ?_
                    rintro e wa ⟨rfl, ⟨m3, rfl⟩⟩
                    have HIa := Lib.hid (HI2.out.drewN m3)
                    generalize w2.drewN m3 = wa at HIa ⊢
                    clear HI2
                    have HONE := Lib.hid (oneR_yes HS1.out HLO.out HD.out)
                    obtain ⟨gl, ol, cl, nl, hc0, hc1, hn1⟩ := scan_two HIa.out.scan
                    clear hy
                    generalize hL1 : x :: y :: t = l1 at *
                    clear hL1
                    go_wp2_with fail
                    clear hc0 hc1 qy qz
                    refine (next_any b l1 b1 _ HIa.out.scan).mono ?_
                    rintro e wb ⟨rfl, hsb, hgb⟩
                    have HIb := Lib.hid (HIa.out.call (s' := nextS (l1, b1)) hgb hsb)
                    clear hsb hgb
                    generalize nextS (l1, b1) = s2 at HIb HONE
                    obtain ⟨l2, b2⟩ := s2
                    go_wp2_with fail
                    refine (plain_any b l2 b2 _ HIb.out.scan).mono ?_
                    rintro e w3 ⟨rfl, hsb, hgb⟩
                    have HI3 := Lib.hid (HIb.out.call (s' := plainS (l2, b2)) hgb hsb)
                    clear hsb hgb
                    (try simp only at HONE)
                    generalize plainS (l2, b2) = s3 at HI3 HONE
                    obtain ⟨l3, b3⟩ := s3
                    generalize plainR l2 = hi at HONE ⊢
                    go_wp2
                    cases b3 with
                    | true =>
                      have cb3 := HI3.out.bad
                      simp only at cb3
                      have fb3 := HI3.out.fbad
                      refine H2.out _ _ (wp_seq_k (fun K14 h14 => ?_))
                      have H14 := Lib.hid h14
                      clear h14
                      go_wp2
                      have HI4 := Lib.hid (HI3.out.setbad true)
                      simp only at HI4
                      generalize w3.setCell ⟨b, 1, none⟩ (.bool true) = w4 at HI4 ⊢
                      have c34 := HI4.out.c3
                      have HONE : Hid (oneR (sl, false) = ((lo, hi), (l3, true))) := Lib.hid (by rw [HONE.out]; first | rfl | (simp; done) | (simp; omega))
                      refine H14.out _ _ ?_
                      clear H14 H2 cb3 fb3 HI3
                      go_wp2_with (first | ((with_reducible refine gate_builtin (b := .append) (xs := #[.tmp 69, .tmp 73]) rfl ?_); at_builtin; refine Kd.R_append rangeK (w0 := w4) w.heap.size rfl (.tmp 69) (.tmp 73) 58 67 (.agg #[.int .i32 0, .int .i32 0]) 8 rfl Try.underlying58 infoRange rfl (by decide) (by decide) _ acc (lo, hi) [.int .i32 lo, .int .i32 hi] (fun _ => True) (fun _ => False) rfl rfl ?aP (fun _ hk => hk.elim) ?aF ?aO ?aB ?aS ?aL ?_; (case aP => exact ⟨[_], [_], rfl, rfl, rfl⟩); (case aB => exact Below.refl _ _); (case aF => exact (fun _ _ => trivial)); (case aO => exact HI4.out.row); (case aS => exact (by rw [HI4.out.eq]; exact HI4.out.grown.size)); (case aL => omega); intro v1 w5 ho hb hg hat; obtain ⟨A1, c1, hv1⟩ := Kd.R_slice ho; generalize (acc ++ [(lo, hi)]).length = N at hv1; subst hv1; have HO := Lib.hid ho; have HG := Lib.hid hg; clear ho hb hg hat; have g1 := (HI4.out.after HG.out).1; have g2 := (HI4.out.after HG.out).2))
                      go_roundg g
                      case measure => omega
                      case rel => exact ⟨false, .slice A1 N c1, acc ++ [(lo, hi)], (l3, true), rfl, by rw [List.length_append, List.length_singleton]; omega, Lib.hid (by have := HM.out; rw [HONE.out] at this; exact this), Lib.hid (HI4.out.app HO.out HG.out)⟩

                    | false =>
                      by_cases hlt : hi < lo
                      · have q0 : decide (hi < lo) = true := decide_eq_true hlt
                        have cb3 := HI3.out.bad
                        simp only at cb3
                        have fb3 := HI3.out.fbad
                        refine H2.out _ _ (wp_seq_k (fun K14 h14 => ?_))
                        have H14 := Lib.hid h14
                        clear h14
                        go_wp2
                        have HI4 := Lib.hid (HI3.out.setbad true)
                        simp only at HI4
                        generalize w3.setCell ⟨b, 1, none⟩ (.bool true) = w4 at HI4 ⊢
                        have c34 := HI4.out.c3
                        have HONE : Hid (oneR (sl, false) = ((lo, hi), (l3, true))) := Lib.hid (by rw [HONE.out]; first | rfl | (simp; done) | (simp; omega))
                        refine H14.out _ _ ?_
                        clear H14 H2 cb3 fb3 HI3
                        go_wp2_with (first | ((with_reducible refine gate_builtin (b := .append) (xs := #[.tmp 69, .tmp 73]) rfl ?_); at_builtin; refine Kd.R_append rangeK (w0 := w4) w.heap.size rfl (.tmp 69) (.tmp 73) 58 67 (.agg #[.int .i32 0, .int .i32 0]) 8 rfl Try.underlying58 infoRange rfl (by decide) (by decide) _ acc (lo, hi) [.int .i32 lo, .int .i32 hi] (fun _ => True) (fun _ => False) rfl rfl ?aP (fun _ hk => hk.elim) ?aF ?aO ?aB ?aS ?aL ?_; (case aP => exact ⟨[_], [_], rfl, rfl, rfl⟩); (case aB => exact Below.refl _ _); (case aF => exact (fun _ _ => trivial)); (case aO => exact HI4.out.row); (case aS => exact (by rw [HI4.out.eq]; exact HI4.out.grown.size)); (case aL => omega); intro v1 w5 ho hb hg hat; obtain ⟨A1, c1, hv1⟩ := Kd.R_slice ho; generalize (acc ++ [(lo, hi)]).length = N at hv1; subst hv1; have HO := Lib.hid ho; have HG := Lib.hid hg; clear ho hb hg hat; have g1 := (HI4.out.after HG.out).1; have g2 := (HI4.out.after HG.out).2))
                        go_roundg g
                        case measure => omega
                        case rel => exact ⟨false, .slice A1 N c1, acc ++ [(lo, hi)], (l3, true), rfl, by rw [List.length_append, List.length_singleton]; omega, Lib.hid (by have := HM.out; rw [HONE.out] at this; exact this), Lib.hid (HI4.out.app HO.out HG.out)⟩

                      · have q0 : decide (hi < lo) = false := decide_eq_false hlt
                        have cb3 := HI3.out.bad
                        simp only at cb3
                        have fb3 := HI3.out.fbad
                        refine H2.out _ _ (wp_seq_k (fun K14 h14 => ?_))
                        have H14 := Lib.hid h14
                        clear h14
                        go_wp2
                        have HI4 := Lib.hid (HI3.out.setbad false)
                        simp only at HI4
                        generalize w3.setCell ⟨b, 1, none⟩ (.bool false) = w4 at HI4 ⊢
                        have c34 := HI4.out.c3
                        have HONE : Hid (oneR (sl, false) = ((lo, hi), (l3, false))) := Lib.hid (by rw [HONE.out]; first | rfl | (simp; done) | (simp; omega))
                        refine H14.out _ _ ?_
                        clear H14 H2 cb3 fb3 HI3
                        go_wp2_with (first | ((with_reducible refine gate_builtin (b := .append) (xs := #[.tmp 69, .tmp 73]) rfl ?_); at_builtin; refine Kd.R_append rangeK (w0 := w4) w.heap.size rfl (.tmp 69) (.tmp 73) 58 67 (.agg #[.int .i32 0, .int .i32 0]) 8 rfl Try.underlying58 infoRange rfl (by decide) (by decide) _ acc (lo, hi) [.int .i32 lo, .int .i32 hi] (fun _ => True) (fun _ => False) rfl rfl ?aP (fun _ hk => hk.elim) ?aF ?aO ?aB ?aS ?aL ?_; (case aP => exact ⟨[_], [_], rfl, rfl, rfl⟩); (case aB => exact Below.refl _ _); (case aF => exact (fun _ _ => trivial)); (case aO => exact HI4.out.row); (case aS => exact (by rw [HI4.out.eq]; exact HI4.out.grown.size)); (case aL => omega); intro v1 w5 ho hb hg hat; obtain ⟨A1, c1, hv1⟩ := Kd.R_slice ho; generalize (acc ++ [(lo, hi)]).length = N at hv1; subst hv1; have HO := Lib.hid ho; have HG := Lib.hid hg; clear ho hb hg hat; have g1 := (HI4.out.after HG.out).1; have g2 := (HI4.out.after HG.out).2))
                        go_roundg g
                        case measure => omega
                        case rel => exact ⟨false, .slice A1 N c1, acc ++ [(lo, hi)], (l3, false), rfl, by rw [List.length_append, List.length_singleton]; omega, Lib.hid (by have := HM.out; rw [HONE.out] at this; exact this), Lib.hid (HI4.out.app HO.out HG.out)⟩

        | false =>
          cases q93 : seesL sl 93 with
          | true =>
            rw [if_neg (by simp [q93])] at hM
            have HM := Lib.hid (Option.some.inj hM)
            rw [q93] at HC93
            clear hM q93
            go_wp2_with fail
            refine (HC93.out _ HI.out.scan).mono ?_
            rintro e wq ⟨rfl, ⟨mq, rfl⟩⟩
            have HI := Lib.hid (HI.out.drewN mq)
            generalize wr.drewN mq = wq at HI ⊢
            go_wp2_with fail
            refine (next_any b sl sb _ HI.out.scan).mono ?_
            rintro e w5 ⟨rfl, hs5, hg5⟩
            have HI5 := Lib.hid (HI.out.call (s' := nextS (sl, sb)) hg5 hs5)
            clear hs5 hg5 HI cb
            obtain ⟨A5, c5, rfl⟩ := Kd.R_slice HI5.out.row
            have d0 := HI5.out.a0
            have d1 := HI5.out.a1
            have d2 := HI5.out.c2
            have d3 := HI5.out.c3
            have r0 := HI5.out.r0
            have r1 := HI5.out.r1
            have r2 := HI5.out.r2
            have r3 := HI5.out.r3
            have z0 := HI5.out.rz 0
            have z1 := HI5.out.rz 1
            have z2 := HI5.out.rz 2
            have z3 := HI5.out.rz 3
            go_wp2
            have H6 := Lib.hid HI5.out.fin
            clear HI5 d0 d1 d2 d3 r0 r1 r2 r3 z0 z1 z2 z3
            generalize (((w5.setCell ⟨w.heap.size, 0, none⟩ (.int .i64 4)).setCell ⟨w.heap.size, 1, none⟩ (.int .i32 0)).setCell ⟨w.heap.size, 2, none⟩ (.bool neg)).setCell ⟨w.heap.size, 3, none⟩ (.slice A5 acc.length c5) = w6 at H6 ⊢
            (try simp only [Exit.inBlock, Exit.then])
            refine bodyPost_ret (results_cell_row (ty := 60) rfl _ _ w.heap.size _ _ _ _ rfl H6.out.res Try.underlying60 rfl sizeAtom) rfl ?_
            exact ⟨neg, R.2, _, _, rfl, HP.out, by rw [← HM.out]; exact H6.out.row, by rw [← HM.out]; exact H6.out.scan, H6.out.grown⟩

          | false =>
            rw [q93] at HC93
            cases sb with
            | true =>
              rw [if_neg (by simp)] at hM
              have HM := Lib.hid (Option.some.inj hM)
              clear hM q93
              go_wp2_with fail
              refine (HC93.out _ HI.out.scan).mono ?_
              rintro e wq ⟨rfl, ⟨mq, rfl⟩⟩
              have HI := Lib.hid (HI.out.drewN mq)
              generalize wr.drewN mq = wq at HI ⊢
              clear cb
              have cb := HI.out.bad
              simp only at cb
              go_wp2_with fail
              refine (next_any b sl true _ HI.out.scan).mono ?_
              rintro e w5 ⟨rfl, hs5, hg5⟩
              have HI5 := Lib.hid (HI.out.call (s' := nextS (sl, true)) hg5 hs5)
              clear hs5 hg5 HI cb
              obtain ⟨A5, c5, rfl⟩ := Kd.R_slice HI5.out.row
              have d0 := HI5.out.a0
              have d1 := HI5.out.a1
              have d2 := HI5.out.c2
              have d3 := HI5.out.c3
              have r0 := HI5.out.r0
              have r1 := HI5.out.r1
              have r2 := HI5.out.r2
              have r3 := HI5.out.r3
              have z0 := HI5.out.rz 0
              have z1 := HI5.out.rz 1
              have z2 := HI5.out.rz 2
              have z3 := HI5.out.rz 3
              go_wp2
              have H6 := Lib.hid HI5.out.fin
              clear HI5 d0 d1 d2 d3 r0 r1 r2 r3 z0 z1 z2 z3
              generalize (((w5.setCell ⟨w.heap.size, 0, none⟩ (.int .i64 4)).setCell ⟨w.heap.size, 1, none⟩ (.int .i32 0)).setCell ⟨w.heap.size, 2, none⟩ (.bool neg)).setCell ⟨w.heap.size, 3, none⟩ (.slice A5 acc.length c5) = w6 at H6 ⊢
              (try simp only [Exit.inBlock, Exit.then])
              refine bodyPost_ret (results_cell_row (ty := 60) rfl _ _ w.heap.size _ _ _ _ rfl H6.out.res Try.underlying60 rfl sizeAtom) rfl ?_
              exact ⟨neg, R.2, _, _, rfl, HP.out, by rw [← HM.out]; exact H6.out.row, by rw [← HM.out]; exact H6.out.scan, H6.out.grown⟩

            | false =>
              rw [if_pos (by simp [q93])] at hM
              have HM := Lib.hid hM
              clear hM q93
              go_wp2_with fail
              refine (HC93.out _ HI.out.scan).mono ?_
              rintro e wq ⟨rfl, ⟨mq, rfl⟩⟩
              have HI := Lib.hid (HI.out.drewN mq)
              generalize wr.drewN mq = wq at HI ⊢
              clear cb
              have cb := HI.out.bad
              simp only at cb
              go_wp2_with fail
              refine (plain_any b sl false _ HI.out.scan).mono ?_
              rintro e w2 ⟨rfl, hs2, hg2⟩
              have HI2 := Lib.hid (HI.out.call (s' := plainS (sl, false)) hg2 hs2)
              clear hs2 hg2 HI cb
              obtain ⟨lo, hlo⟩ : ∃ lo, lo = plainR sl := ⟨_, rfl⟩
              rw [← hlo]
              obtain ⟨s1, hs1⟩ : ∃ s1, s1 = plainS (sl, false) := ⟨_, rfl⟩
              rw [← hs1] at HI2
              obtain ⟨l1, b1⟩ := s1
              have HLO := Lib.hid hlo
              have HS1 := Lib.hid hs1
              clear hlo hs1
              have HCs : Hid (Calls Try.prog 22 #[.pointer (some ⟨b, 0, none⟩), .int .i32 45] w2 fun e w' => e = .returned (.bool (seesL l1 45)) ∧ Drawn0 w2 w') := Lib.hid (sees_any b l1 b1 45 w2 HI2.out.scan)
              go_wp2_with fail
              rename_i K2 h2 K1 h1 K0 h0
              have H2 := Lib.hid h2
              clear h2
              cases q45 : seesL l1 45 with
              | false =>
                have HD := Lib.hid (show dash (l1, b1) = false by unfold dash; simp [q45])
                rw [q45] at HCs
                clear q45
                refine HCs.out.mono ?_
                rintro e w3 ⟨rfl, ⟨m3, rfl⟩⟩
                have HI3 := Lib.hid (HI2.out.drewN m3)
                generalize w2.drewN m3 = w3 at HI3 ⊢
                clear HI2
                have HONE := Lib.hid (oneR_no HS1.out HLO.out HD.out)
                go_wp2
                cases b1 with
                | true =>
                  have cb3 := HI3.out.bad
                  simp only at cb3
                  have fb3 := HI3.out.fbad
                  refine H2.out _ _ (wp_seq_k (fun K14 h14 => ?_))
                  have H14 := Lib.hid h14
                  clear h14
                  go_wp2
                  have HI4 := Lib.hid (HI3.out.setbad true)
                  simp only at HI4
                  generalize w3.setCell ⟨b, 1, none⟩ (.bool true) = w4 at HI4 ⊢
                  have c34 := HI4.out.c3
                  have HONE : Hid (oneR (sl, false) = ((lo, lo), (l1, true))) := Lib.hid (by rw [HONE.out]; first | rfl | (simp; done) | (simp; omega))
                  refine H14.out _ _ ?_
                  clear H14 H2 cb3 fb3 HI3
                  go_wp2_with (first | ((with_reducible refine gate_builtin (b := .append) (xs := #[.tmp 69, .tmp 73]) rfl ?_); at_builtin; refine Kd.R_append rangeK (w0 := w4) w.heap.size rfl (.tmp 69) (.tmp 73) 58 67 (.agg #[.int .i32 0, .int .i32 0]) 8 rfl Try.underlying58 infoRange rfl (by decide) (by decide) _ acc (lo, lo) [.int .i32 lo, .int .i32 lo] (fun _ => True) (fun _ => False) rfl rfl ?aP (fun _ hk => hk.elim) ?aF ?aO ?aB ?aS ?aL ?_; (case aP => exact ⟨[_], [_], rfl, rfl, rfl⟩); (case aB => exact Below.refl _ _); (case aF => exact (fun _ _ => trivial)); (case aO => exact HI4.out.row); (case aS => exact (by rw [HI4.out.eq]; exact HI4.out.grown.size)); (case aL => omega); intro v1 w5 ho hb hg hat; obtain ⟨A1, c1, hv1⟩ := Kd.R_slice ho; generalize (acc ++ [(lo, lo)]).length = N at hv1; subst hv1; have HO := Lib.hid ho; have HG := Lib.hid hg; clear ho hb hg hat; have g1 := (HI4.out.after HG.out).1; have g2 := (HI4.out.after HG.out).2))
                  go_roundg g
                  case measure => omega
                  case rel => exact ⟨false, .slice A1 N c1, acc ++ [(lo, lo)], (l1, true), rfl, by rw [List.length_append, List.length_singleton]; omega, Lib.hid (by have := HM.out; rw [HONE.out] at this; exact this), Lib.hid (HI4.out.app HO.out HG.out)⟩

                | false =>
                  have cb3 := HI3.out.bad
                  simp only at cb3
                  have fb3 := HI3.out.fbad
                  refine H2.out _ _ (wp_seq_k (fun K14 h14 => ?_))
                  have H14 := Lib.hid h14
                  clear h14
                  go_wp2
                  have HI4 := Lib.hid (HI3.out.setbad false)
                  simp only at HI4
                  generalize w3.setCell ⟨b, 1, none⟩ (.bool false) = w4 at HI4 ⊢
                  have c34 := HI4.out.c3
                  have HONE : Hid (oneR (sl, false) = ((lo, lo), (l1, false))) := Lib.hid (by rw [HONE.out]; first | rfl | (simp; done) | (simp; omega))
                  refine H14.out _ _ ?_
                  clear H14 H2 cb3 fb3 HI3
                  go_wp2_with (first | ((with_reducible refine gate_builtin (b := .append) (xs := #[.tmp 69, .tmp 73]) rfl ?_); at_builtin; refine Kd.R_append rangeK (w0 := w4) w.heap.size rfl (.tmp 69) (.tmp 73) 58 67 (.agg #[.int .i32 0, .int .i32 0]) 8 rfl Try.underlying58 infoRange rfl (by decide) (by decide) _ acc (lo, lo) [.int .i32 lo, .int .i32 lo] (fun _ => True) (fun _ => False) rfl rfl ?aP (fun _ hk => hk.elim) ?aF ?aO ?aB ?aS ?aL ?_; (case aP => exact ⟨[_], [_], rfl, rfl, rfl⟩); (case aB => exact Below.refl _ _); (case aF => exact (fun _ _ => trivial)); (case aO => exact HI4.out.row); (case aS => exact (by rw [HI4.out.eq]; exact HI4.out.grown.size)); (case aL => omega); intro v1 w5 ho hb hg hat; obtain ⟨A1, c1, hv1⟩ := Kd.R_slice ho; generalize (acc ++ [(lo, lo)]).length = N at hv1; subst hv1; have HO := Lib.hid ho; have HG := Lib.hid hg; clear ho hb hg hat; have g1 := (HI4.out.after HG.out).1; have g2 := (HI4.out.after HG.out).2))
                  go_roundg g
                  case measure => omega
                  case rel => exact ⟨false, .slice A1 N c1, acc ++ [(lo, lo)], (l1, false), rfl, by rw [List.length_append, List.length_singleton]; omega, Lib.hid (by have := HM.out; rw [HONE.out] at this; exact this), Lib.hid (HI4.out.app HO.out HG.out)⟩

              | true =>
                cases l1 with
                | nil => exact absurd q45 (by simp [seesL])
                | cons x t =>
                  cases t with
                  | nil =>
                    have HD := Lib.hid (show dash ([x], b1) = false by unfold dash; simp)
                    rw [q45] at HCs
                    clear q45
                    refine HCs.out.mono ?_
                    rintro e w3 ⟨rfl, ⟨m3, rfl⟩⟩
                    have HI3 := Lib.hid (HI2.out.drewN m3)
                    generalize w2.drewN m3 = w3 at HI3 ⊢
                    clear HI2
                    have HONE := Lib.hid (oneR_no HS1.out HLO.out HD.out)
                    obtain ⟨Al, cl, hc0⟩ := scan_one HI3.out.scan
                    go_wp2
                    clear hc0
                    cases b1 with
                    | true =>
                      have cb3 := HI3.out.bad
                      simp only at cb3
                      have fb3 := HI3.out.fbad
                      refine H2.out _ _ (wp_seq_k (fun K14 h14 => ?_))
                      have H14 := Lib.hid h14
                      clear h14
                      go_wp2
                      have HI4 := Lib.hid (HI3.out.setbad true)
                      simp only at HI4
                      generalize w3.setCell ⟨b, 1, none⟩ (.bool true) = w4 at HI4 ⊢
                      have c34 := HI4.out.c3
                      have HONE : Hid (oneR (sl, false) = ((lo, lo), ([x], true))) := Lib.hid (by rw [HONE.out]; first | rfl | (simp; done) | (simp; omega))
                      refine H14.out _ _ ?_
                      clear H14 H2 cb3 fb3 HI3
                      go_wp2_with (first | ((with_reducible refine gate_builtin (b := .append) (xs := #[.tmp 69, .tmp 73]) rfl ?_); at_builtin; refine Kd.R_append rangeK (w0 := w4) w.heap.size rfl (.tmp 69) (.tmp 73) 58 67 (.agg #[.int .i32 0, .int .i32 0]) 8 rfl Try.underlying58 infoRange rfl (by decide) (by decide) _ acc (lo, lo) [.int .i32 lo, .int .i32 lo] (fun _ => True) (fun _ => False) rfl rfl ?aP (fun _ hk => hk.elim) ?aF ?aO ?aB ?aS ?aL ?_; (case aP => exact ⟨[_], [_], rfl, rfl, rfl⟩); (case aB => exact Below.refl _ _); (case aF => exact (fun _ _ => trivial)); (case aO => exact HI4.out.row); (case aS => exact (by rw [HI4.out.eq]; exact HI4.out.grown.size)); (case aL => omega); intro v1 w5 ho hb hg hat; obtain ⟨A1, c1, hv1⟩ := Kd.R_slice ho; generalize (acc ++ [(lo, lo)]).length = N at hv1; subst hv1; have HO := Lib.hid ho; have HG := Lib.hid hg; clear ho hb hg hat; have g1 := (HI4.out.after HG.out).1; have g2 := (HI4.out.after HG.out).2))
                      go_roundg g
                      case measure => omega
                      case rel => exact ⟨false, .slice A1 N c1, acc ++ [(lo, lo)], ([x], true), rfl, by rw [List.length_append, List.length_singleton]; omega, Lib.hid (by have := HM.out; rw [HONE.out] at this; exact this), Lib.hid (HI4.out.app HO.out HG.out)⟩

                    | false =>
                      have cb3 := HI3.out.bad
                      simp only at cb3
                      have fb3 := HI3.out.fbad
                      refine H2.out _ _ (wp_seq_k (fun K14 h14 => ?_))
                      have H14 := Lib.hid h14
                      clear h14
                      go_wp2
                      have HI4 := Lib.hid (HI3.out.setbad false)
                      simp only at HI4
                      generalize w3.setCell ⟨b, 1, none⟩ (.bool false) = w4 at HI4 ⊢
                      have c34 := HI4.out.c3
                      have HONE : Hid (oneR (sl, false) = ((lo, lo), ([x], false))) := Lib.hid (by rw [HONE.out]; first | rfl | (simp; done) | (simp; omega))
                      refine H14.out _ _ ?_
                      clear H14 H2 cb3 fb3 HI3
                      go_wp2_with (first | ((with_reducible refine gate_builtin (b := .append) (xs := #[.tmp 69, .tmp 73]) rfl ?_); at_builtin; refine Kd.R_append rangeK (w0 := w4) w.heap.size rfl (.tmp 69) (.tmp 73) 58 67 (.agg #[.int .i32 0, .int .i32 0]) 8 rfl Try.underlying58 infoRange rfl (by decide) (by decide) _ acc (lo, lo) [.int .i32 lo, .int .i32 lo] (fun _ => True) (fun _ => False) rfl rfl ?aP (fun _ hk => hk.elim) ?aF ?aO ?aB ?aS ?aL ?_; (case aP => exact ⟨[_], [_], rfl, rfl, rfl⟩); (case aB => exact Below.refl _ _); (case aF => exact (fun _ _ => trivial)); (case aO => exact HI4.out.row); (case aS => exact (by rw [HI4.out.eq]; exact HI4.out.grown.size)); (case aL => omega); intro v1 w5 ho hb hg hat; obtain ⟨A1, c1, hv1⟩ := Kd.R_slice ho; generalize (acc ++ [(lo, lo)]).length = N at hv1; subst hv1; have HO := Lib.hid ho; have HG := Lib.hid hg; clear ho hb hg hat; have g1 := (HI4.out.after HG.out).1; have g2 := (HI4.out.after HG.out).2))
                      go_roundg g
                      case measure => omega
                      case rel => exact ⟨false, .slice A1 N c1, acc ++ [(lo, lo)], ([x], false), rfl, by rw [List.length_append, List.length_singleton]; omega, Lib.hid (by have := HM.out; rw [HONE.out] at this; exact this), Lib.hid (HI4.out.app HO.out HG.out)⟩

                  | cons y t =>
                    by_cases hy : y = 93
                    · have HD := Lib.hid (show dash (x :: y :: t, b1) = false by unfold dash; simp [hy])
                      rw [q45] at HCs
                      clear q45
                      have qy : (y != 93) = false := by simp [hy]
                      have qz : (y == 93) = true := by simp [hy]
                      refine HCs.out.mono ?_
                      rintro e w3 ⟨rfl, ⟨m3, rfl⟩⟩
                      have HI3 := Lib.hid (HI2.out.drewN m3)
                      generalize w2.drewN m3 = w3 at HI3 ⊢
                      clear HI2
                      have HONE := Lib.hid (oneR_no HS1.out HLO.out HD.out)
                      obtain ⟨gl, ol, cl, nl, hc0, hc1, hn1⟩ := scan_two HI3.out.scan
                      clear hy
                      generalize hL1 : x :: y :: t = l1 at *
                      clear hL1
                      go_wp2
                      clear hc0 hc1 qy qz
                      cases b1 with
                      | true =>
                        have cb3 := HI3.out.bad
                        simp only at cb3
                        have fb3 := HI3.out.fbad
                        refine H2.out _ _ (wp_seq_k (fun K14 h14 => ?_))
                        have H14 := Lib.hid h14
                        clear h14
                        go_wp2
                        have HI4 := Lib.hid (HI3.out.setbad true)
                        simp only at HI4
                        generalize w3.setCell ⟨b, 1, none⟩ (.bool true) = w4 at HI4 ⊢
                        have c34 := HI4.out.c3
                        have HONE : Hid (oneR (sl, false) = ((lo, lo), (l1, true))) := Lib.hid (by rw [HONE.out]; first | rfl | (simp; done) | (simp; omega))
                        refine H14.out _ _ ?_
                        clear H14 H2 cb3 fb3 HI3
                        go_wp2_with (first | ((with_reducible refine gate_builtin (b := .append) (xs := #[.tmp 69, .tmp 73]) rfl ?_); at_builtin; refine Kd.R_append rangeK (w0 := w4) w.heap.size rfl (.tmp 69) (.tmp 73) 58 67 (.agg #[.int .i32 0, .int .i32 0]) 8 rfl Try.underlying58 infoRange rfl (by decide) (by decide) _ acc (lo, lo) [.int .i32 lo, .int .i32 lo] (fun _ => True) (fun _ => False) rfl rfl ?aP (fun _ hk => hk.elim) ?aF ?aO ?aB ?aS ?aL ?_; (case aP => exact ⟨[_], [_], rfl, rfl, rfl⟩); (case aB => exact Below.refl _ _); (case aF => exact (fun _ _ => trivial)); (case aO => exact HI4.out.row); (case aS => exact (by rw [HI4.out.eq]; exact HI4.out.grown.size)); (case aL => omega); intro v1 w5 ho hb hg hat; obtain ⟨A1, c1, hv1⟩ := Kd.R_slice ho; generalize (acc ++ [(lo, lo)]).length = N at hv1; subst hv1; have HO := Lib.hid ho; have HG := Lib.hid hg; clear ho hb hg hat; have g1 := (HI4.out.after HG.out).1; have g2 := (HI4.out.after HG.out).2))
                        go_roundg g
                        case measure => omega
                        case rel => exact ⟨false, .slice A1 N c1, acc ++ [(lo, lo)], (l1, true), rfl, by rw [List.length_append, List.length_singleton]; omega, Lib.hid (by have := HM.out; rw [HONE.out] at this; exact this), Lib.hid (HI4.out.app HO.out HG.out)⟩

                      | false =>
                        have cb3 := HI3.out.bad
                        simp only at cb3
                        have fb3 := HI3.out.fbad
                        refine H2.out _ _ (wp_seq_k (fun K14 h14 => ?_))
                        have H14 := Lib.hid h14
                        clear h14
                        go_wp2
                        have HI4 := Lib.hid (HI3.out.setbad false)
                        simp only at HI4
                        generalize w3.setCell ⟨b, 1, none⟩ (.bool false) = w4 at HI4 ⊢
                        have c34 := HI4.out.c3
                        have HONE : Hid (oneR (sl, false) = ((lo, lo), (l1, false))) := Lib.hid (by rw [HONE.out]; first | rfl | (simp; done) | (simp; omega))
                        refine H14.out _ _ ?_
                        clear H14 H2 cb3 fb3 HI3
                        go_wp2_with (first | ((with_reducible refine gate_builtin (b := .append) (xs := #[.tmp 69, .tmp 73]) rfl ?_); at_builtin; refine Kd.R_append rangeK (w0 := w4) w.heap.size rfl (.tmp 69) (.tmp 73) 58 67 (.agg #[.int .i32 0, .int .i32 0]) 8 rfl Try.underlying58 infoRange rfl (by decide) (by decide) _ acc (lo, lo) [.int .i32 lo, .int .i32 lo] (fun _ => True) (fun _ => False) rfl rfl ?aP (fun _ hk => hk.elim) ?aF ?aO ?aB ?aS ?aL ?_; (case aP => exact ⟨[_], [_], rfl, rfl, rfl⟩); (case aB => exact Below.refl _ _); (case aF => exact (fun _ _ => trivial)); (case aO => exact HI4.out.row); (case aS => exact (by rw [HI4.out.eq]; exact HI4.out.grown.size)); (case aL => omega); intro v1 w5 ho hb hg hat; obtain ⟨A1, c1, hv1⟩ := Kd.R_slice ho; generalize (acc ++ [(lo, lo)]).length = N at hv1; subst hv1; have HO := Lib.hid ho; have HG := Lib.hid hg; clear ho hb hg hat; have g1 := (HI4.out.after HG.out).1; have g2 := (HI4.out.after HG.out).2))
                        go_roundg g
                        case measure => omega
                        case rel => exact ⟨false, .slice A1 N c1, acc ++ [(lo, lo)], (l1, false), rfl, by rw [List.length_append, List.length_singleton]; omega, Lib.hid (by have := HM.out; rw [HONE.out] at this; exact this), Lib.hid (HI4.out.app HO.out HG.out)⟩

                    · have HD := Lib.hid (show dash (x :: y :: t, b1) = true by unfold dash; rw [q45]; simp [hy])
                      rw [q45] at HCs
                      clear q45
                      have qy : (y != 93) = true := by simp [hy]
                      have qz : (y == 93) = false := by simp [hy]
                      refine HCs.out.mono ?_
                      rintro e wa ⟨rfl, ⟨m3, rfl⟩⟩
                      have HIa := Lib.hid (HI2.out.drewN m3)
                      generalize w2.drewN m3 = wa at HIa ⊢
                      clear HI2
                      have HONE := Lib.hid (oneR_yes HS1.out HLO.out HD.out)
                      obtain ⟨gl, ol, cl, nl, hc0, hc1, hn1⟩ := scan_two HIa.out.scan
                      clear hy
                      generalize hL1 : x :: y :: t = l1 at *
                      clear hL1
                      go_wp2_with fail
                      clear hc0 hc1 qy qz
                      refine (next_any b l1 b1 _ HIa.out.scan).mono ?_
                      rintro e wb ⟨rfl, hsb, hgb⟩
                      have HIb := Lib.hid (HIa.out.call (s' := nextS (l1, b1)) hgb hsb)
                      clear hsb hgb
                      generalize nextS (l1, b1) = s2 at HIb HONE
                      obtain ⟨l2, b2⟩ := s2
                      go_wp2_with fail
                      refine (plain_any b l2 b2 _ HIb.out.scan).mono ?_
                      rintro e w3 ⟨rfl, hsb, hgb⟩
                      have HI3 := Lib.hid (HIb.out.call (s' := plainS (l2, b2)) hgb hsb)
                      clear hsb hgb
                      (try simp only at HONE)
                      generalize plainS (l2, b2) = s3 at HI3 HONE
                      obtain ⟨l3, b3⟩ := s3
                      generalize plainR l2 = hi at HONE ⊢
                      go_wp2
                      cases b3 with
                      | true =>
                        have cb3 := HI3.out.bad
                        simp only at cb3
                        have fb3 := HI3.out.fbad
                        refine H2.out _ _ (wp_seq_k (fun K14 h14 => ?_))
                        have H14 := Lib.hid h14
                        clear h14
                        go_wp2
                        have HI4 := Lib.hid (HI3.out.setbad true)
                        simp only at HI4
                        generalize w3.setCell ⟨b, 1, none⟩ (.bool true) = w4 at HI4 ⊢
                        have c34 := HI4.out.c3
                        have HONE : Hid (oneR (sl, false) = ((lo, hi), (l3, true))) := Lib.hid (by rw [HONE.out]; first | rfl | (simp; done) | (simp; omega))
                        refine H14.out _ _ ?_
                        clear H14 H2 cb3 fb3 HI3
                        go_wp2_with (first | ((with_reducible refine gate_builtin (b := .append) (xs := #[.tmp 69, .tmp 73]) rfl ?_); at_builtin; refine Kd.R_append rangeK (w0 := w4) w.heap.size rfl (.tmp 69) (.tmp 73) 58 67 (.agg #[.int .i32 0, .int .i32 0]) 8 rfl Try.underlying58 infoRange rfl (by decide) (by decide) _ acc (lo, hi) [.int .i32 lo, .int .i32 hi] (fun _ => True) (fun _ => False) rfl rfl ?aP (fun _ hk => hk.elim) ?aF ?aO ?aB ?aS ?aL ?_; (case aP => exact ⟨[_], [_], rfl, rfl, rfl⟩); (case aB => exact Below.refl _ _); (case aF => exact (fun _ _ => trivial)); (case aO => exact HI4.out.row); (case aS => exact (by rw [HI4.out.eq]; exact HI4.out.grown.size)); (case aL => omega); intro v1 w5 ho hb hg hat; obtain ⟨A1, c1, hv1⟩ := Kd.R_slice ho; generalize (acc ++ [(lo, hi)]).length = N at hv1; subst hv1; have HO := Lib.hid ho; have HG := Lib.hid hg; clear ho hb hg hat; have g1 := (HI4.out.after HG.out).1; have g2 := (HI4.out.after HG.out).2))
                        go_roundg g
                        case measure => omega
                        case rel => exact ⟨false, .slice A1 N c1, acc ++ [(lo, hi)], (l3, true), rfl, by rw [List.length_append, List.length_singleton]; omega, Lib.hid (by have := HM.out; rw [HONE.out] at this; exact this), Lib.hid (HI4.out.app HO.out HG.out)⟩

                      | false =>
                        by_cases hlt : hi < lo
                        · have q0 : decide (hi < lo) = true := decide_eq_true hlt
                          have cb3 := HI3.out.bad
                          simp only at cb3
                          have fb3 := HI3.out.fbad
                          refine H2.out _ _ (wp_seq_k (fun K14 h14 => ?_))
                          have H14 := Lib.hid h14
                          clear h14
                          go_wp2
                          have HI4 := Lib.hid (HI3.out.setbad true)
                          simp only at HI4
                          generalize w3.setCell ⟨b, 1, none⟩ (.bool true) = w4 at HI4 ⊢
                          have c34 := HI4.out.c3
                          have HONE : Hid (oneR (sl, false) = ((lo, hi), (l3, true))) := Lib.hid (by rw [HONE.out]; first | rfl | (simp; done) | (simp; omega))
                          refine H14.out _ _ ?_
                          clear H14 H2 cb3 fb3 HI3
                          go_wp2_with (first | ((with_reducible refine gate_builtin (b := .append) (xs := #[.tmp 69, .tmp 73]) rfl ?_); at_builtin; refine Kd.R_append rangeK (w0 := w4) w.heap.size rfl (.tmp 69) (.tmp 73) 58 67 (.agg #[.int .i32 0, .int .i32 0]) 8 rfl Try.underlying58 infoRange rfl (by decide) (by decide) _ acc (lo, hi) [.int .i32 lo, .int .i32 hi] (fun _ => True) (fun _ => False) rfl rfl ?aP (fun _ hk => hk.elim) ?aF ?aO ?aB ?aS ?aL ?_; (case aP => exact ⟨[_], [_], rfl, rfl, rfl⟩); (case aB => exact Below.refl _ _); (case aF => exact (fun _ _ => trivial)); (case aO => exact HI4.out.row); (case aS => exact (by rw [HI4.out.eq]; exact HI4.out.grown.size)); (case aL => omega); intro v1 w5 ho hb hg hat; obtain ⟨A1, c1, hv1⟩ := Kd.R_slice ho; generalize (acc ++ [(lo, hi)]).length = N at hv1; subst hv1; have HO := Lib.hid ho; have HG := Lib.hid hg; clear ho hb hg hat; have g1 := (HI4.out.after HG.out).1; have g2 := (HI4.out.after HG.out).2))
                          go_roundg g
                          case measure => omega
                          case rel => exact ⟨false, .slice A1 N c1, acc ++ [(lo, hi)], (l3, true), rfl, by rw [List.length_append, List.length_singleton]; omega, Lib.hid (by have := HM.out; rw [HONE.out] at this; exact this), Lib.hid (HI4.out.app HO.out HG.out)⟩

                        · have q0 : decide (hi < lo) = false := decide_eq_false hlt
                          have cb3 := HI3.out.bad
                          simp only at cb3
                          have fb3 := HI3.out.fbad
                          refine H2.out _ _ (wp_seq_k (fun K14 h14 => ?_))
                          have H14 := Lib.hid h14
                          clear h14
                          go_wp2
                          have HI4 := Lib.hid (HI3.out.setbad false)
                          simp only at HI4
                          generalize w3.setCell ⟨b, 1, none⟩ (.bool false) = w4 at HI4 ⊢
                          have c34 := HI4.out.c3
                          have HONE : Hid (oneR (sl, false) = ((lo, hi), (l3, false))) := Lib.hid (by rw [HONE.out]; first | rfl | (simp; done) | (simp; omega))
                          refine H14.out _ _ ?_
                          clear H14 H2 cb3 fb3 HI3
                          go_wp2_with (first | ((with_reducible refine gate_builtin (b := .append) (xs := #[.tmp 69, .tmp 73]) rfl ?_); at_builtin; refine Kd.R_append rangeK (w0 := w4) w.heap.size rfl (.tmp 69) (.tmp 73) 58 67 (.agg #[.int .i32 0, .int .i32 0]) 8 rfl Try.underlying58 infoRange rfl (by decide) (by decide) _ acc (lo, hi) [.int .i32 lo, .int .i32 hi] (fun _ => True) (fun _ => False) rfl rfl ?aP (fun _ hk => hk.elim) ?aF ?aO ?aB ?aS ?aL ?_; (case aP => exact ⟨[_], [_], rfl, rfl, rfl⟩); (case aB => exact Below.refl _ _); (case aF => exact (fun _ _ => trivial)); (case aO => exact HI4.out.row); (case aS => exact (by rw [HI4.out.eq]; exact HI4.out.grown.size)); (case aL => omega); intro v1 w5 ho hb hg hat; obtain ⟨A1, c1, hv1⟩ := Kd.R_slice ho; generalize (acc ++ [(lo, hi)]).length = N at hv1; subst hv1; have HO := Lib.hid ho; have HG := Lib.hid hg; clear ho hb hg hat; have g1 := (HI4.out.after HG.out).1; have g2 := (HI4.out.after HG.out).2))
                          go_roundg g
                          case measure => omega
                          case rel => exact ⟨false, .slice A1 N c1, acc ++ [(lo, hi)], (l3, false), rfl, by rw [List.length_append, List.length_singleton]; omega, Lib.hid (by have := HM.out; rw [HONE.out] at this; exact this), Lib.hid (HI4.out.app HO.out HG.out)⟩

  clear h2
  generalize (w.alloc (.cells #[.int .i64 0, .int .i32 0, .bool false, .slice none 0 0] 60)).alloc (.cells #[.int .i64 4, .int .i32 0, .bool false, .slice none 0 0] 60) = W0 at HI0 ⊢
  cases q33 : seesL l 33 with
  | true =>
    obtain ⟨R, hR⟩ := setLoop_some ((nextS (l, bad)).1.length + 2) (nextS (l, bad)) true [] (by split <;> omega)
    have HPs := Lib.hid (setP_of (s := (l, bad)) (neg := true) (by simp [q33]) (if_pos rfl) hR)
    have HR := Lib.hid hR
    have HC1 : Hid (Calls Try.prog 22 #[.pointer (some ⟨b, 0, none⟩), .int .i32 33] W0 fun e w' => e = .returned (.bool true) ∧ Drawn0 W0 w') := Lib.hid (by rw [← q33]; exact HC.out W0 33 HI0.out.scan)
    clear q33 hR
    refine HC1.out.mono ?_
    rintro e w1 ⟨rfl, ⟨m1, rfl⟩⟩
    have HI1 := Lib.hid (HI0.out.drewN m1)
    generalize W0.drewN m1 = W1 at HI1 ⊢
    have c2 := HI1.out.c2
    have f2 := HI1.out.fz 2
    go_wp2_with fail
    have HI2 := Lib.hid (HI1.out.setneg true)
    generalize W1.setCell ⟨w.heap.size + 1, 2, none⟩ (.bool true) = W2 at HI2 ⊢
    refine (next_any b l bad _ HI2.out.scan).mono ?_
    rintro e w3 ⟨rfl, hs3, hg3⟩
    have HI3 := Lib.hid (HI2.out.call (s' := nextS (l, bad)) hg3 hs3)
    clear hs3 hg3
    go_wp2
    exact tail _ _ _ _ _ _ _ _ _ _ true (nextS (l, bad)) R (by have := (next_len (l, bad)).1; simp only at this; omega) HI3 HR HPs

  | false =>
    have HC1 : Hid (Calls Try.prog 22 #[.pointer (some ⟨b, 0, none⟩), .int .i32 33] W0 fun e w' => e = .returned (.bool false) ∧ Drawn0 W0 w') := Lib.hid (by rw [← q33]; exact HC.out W0 33 HI0.out.scan)
    refine HC1.out.mono ?_
    rintro e w1 ⟨rfl, ⟨m1, rfl⟩⟩
    have HIq := Lib.hid (HI0.out.drewN m1)
    generalize W0.drewN m1 = Wq at HIq ⊢
    cases q94 : seesL l 94 with
    | true =>
      obtain ⟨R, hR⟩ := setLoop_some ((nextS (l, bad)).1.length + 2) (nextS (l, bad)) true [] (by split <;> omega)
      have HPs := Lib.hid (setP_of (s := (l, bad)) (neg := true) (by simp [q33, q94]) (if_pos rfl) hR)
      have HR := Lib.hid hR
      have HC2 : Hid (Calls Try.prog 22 #[.pointer (some ⟨b, 0, none⟩), .int .i32 94] Wq fun e w' => e = .returned (.bool true) ∧ Drawn0 Wq w') := Lib.hid (by rw [← q94]; exact HC.out Wq 94 HIq.out.scan)
      clear q33 hR q94
      go_wp2_with fail
      refine HC2.out.mono ?_
      rintro e w1 ⟨rfl, ⟨m2, rfl⟩⟩
      have HI1 := Lib.hid (HIq.out.drewN m2)
      generalize Wq.drewN m2 = W1 at HI1 ⊢
      have c2 := HI1.out.c2
      have f2 := HI1.out.fz 2
      go_wp2_with fail
      have HI2 := Lib.hid (HI1.out.setneg true)
      generalize W1.setCell ⟨w.heap.size + 1, 2, none⟩ (.bool true) = W2 at HI2 ⊢
      refine (next_any b l bad _ HI2.out.scan).mono ?_
      rintro e w3 ⟨rfl, hs3, hg3⟩
      have HI3 := Lib.hid (HI2.out.call (s' := nextS (l, bad)) hg3 hs3)
      clear hs3 hg3
      go_wp2
      exact tail _ _ _ _ _ _ _ _ _ _ true (nextS (l, bad)) R (by have := (next_len (l, bad)).1; simp only at this; omega) HI3 HR HPs

    | false =>
      obtain ⟨R, hR⟩ := setLoop_some (l.length + 2) (l, bad) true [] (by split <;> simp)
      have HPs := Lib.hid (setP_of (s := (l, bad)) (neg := false) (by simp [q33, q94]) (if_neg (by simp)) hR)
      have HR := Lib.hid hR
      have HC2 : Hid (Calls Try.prog 22 #[.pointer (some ⟨b, 0, none⟩), .int .i32 94] Wq fun e w' => e = .returned (.bool false) ∧ Drawn0 Wq w') := Lib.hid (by rw [← q94]; exact HC.out Wq 94 HIq.out.scan)
      clear q33 hR q94
      go_wp2_with fail
      refine HC2.out.mono ?_
      rintro e w1 ⟨rfl, ⟨m2, rfl⟩⟩
      have HI1 := Lib.hid (HIq.out.drewN m2)
      generalize Wq.drewN m2 = W1 at HI1 ⊢
      go_wp2
      exact tail _ _ _ _ _ _ _ _ _ _ false (l, bad) R hl HI1 HR HPs

end Go.Proofs.Ytfogfkikkekmkaa.GlobSet
