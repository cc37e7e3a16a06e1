/- glob: a pattern is read. -/
import Derived.Test.YtfogfkikkekmkaaGlobSet
import Derived.Test.YtfogfkikkekmkaaFilterLaw
import Derived.Laws.ResultCell
set_option linter.unusedVariables false
set_option linter.unusedSimpArgs false
namespace Go.Proofs.Ytfogfkikkekmkaa.GlobComp
open Go.RowKit Go.Proofs.YtfogfkikkekmkaaW.PrintWords Go.Proofs.YtfogfkikkekmkaaW.PrintLast Go.Proofs.YtfogfkikkekmkaaW.PrintMore Go.Proofs.Ytfogfkikkekmkaa.GlobScan Go.Proofs.Ytfogfkikkekmkaa.GlobRunes Go.Proofs.Ytfogfkikkekmkaa.GlobLaw Go.Proofs.Ytfogfkikkekmkaa.GlobTake Go.Proofs.Ytfogfkikkekmkaa.GlobSet Go.Proofs.Ytfogfkikkekmkaa.FilterLaw

theorem infoAtom : (Try.prog.info? 60).map (fun i => (i.zero, i.size, i.bytes)) = some (some (.agg #[.int .i64 0, .int .i32 0, .bool false, .slice none 0 0]), 4, 40) := by kernel_rfl
theorem sizePat : (Try.prog.info? 48).map (·.size) = some 1 := by kernel_rfl
theorem results_row_tmp {P : Program} {fn : Func} {p u : Tmp} {ty : TypeId} (h : fn.results = #[.cell p ty, .tmp u]) (tmps : Array Value) (w : World) (g : Nat) (t : TypeId) (cs : Array Value) (fr : Nat × Nat) (d : TypeDesc)
    (hp : tmps.getD p undef = .pointer (some ⟨g, 0, none⟩)) (hg : w.heap[g]? = some (.cells cs t fr))
    (hu : P.underlying ty = some d) (hd : (match d with | .struct _ | .array _ _ => true | _ => false) = true) (hi : (P.info? ty).map (·.size) = some cs.size) :
    (results fn tmps).run P w = .ok (.tuple #[.agg cs, tmps.getD u undef]) w := by
  rw [results_cell_tmp h, hp]
  simp [asAddr, run_loadVar_row w g t ty cs fr d hg hu hd hi, Result.andThen]
/-- What is there while a pattern is being read: the result's block n, the reader's B, the pattern's behind it. -/
structure CompInv (w wr : World) (n B : Nat) (v : Value) (acc : List Atom) (s : St) : Prop where
  scan : ScanAt wr B s.1 s.2
  pat : wr.heap[B + 1]? = some (.cells #[v] 48 (0, 0))
  res : wr.heap[n]? = some (.cells #[.slice none 0 0] 48 (0, 0))
  row : atomK.R 60 wr n (fun _ => True) v acc
  below : Below n w wr
  eq : n = w.heap.size
  lt : n < B
section
variable {w wr w1 : World} {n B : Nat} {v : Value} {acc : List Atom} {s : St}
theorem below_grown {n : Nat} {w wr w1 : World} (h : Below n w wr) {row : Option Nat} (hn : n ≤ w.heap.size) (hg : wr.grownBy w1 row) (hr : ∀ x, row = some x → n ≤ x) : Below n w w1 :=
  h.trans ⟨hg.os, hg.tape, hg.output, hg.size, fun k hk => hg.block k (by have := h.size; omega) (fun e => by have := hr k e.symm; omega)⟩
theorem CompInv.sz (h : CompInv w wr n B v acc s) : n ≤ wr.heap.size := by have := h.below.size; have := h.eq; omega
theorem CompInv.scan_typed (h : CompInv w wr n B v acc s) : ∃ cells, wr.heap[B]? = some (.cells cells 56 (0, 0)) := by
  obtain ⟨u, hb, _⟩ := h.scan
  exact ⟨_, hb⟩
theorem CompInv.call (h : CompInv w wr n B v acc s) {s' : St} (hg : wr.grownBy w1 (some B)) (hs : ScanAt w1 B s'.1 s'.2) : CompInv w w1 n B v acc s' where
  scan := hs
  pat := (hg.block _ (Array.getElem?_eq_some_iff.1 h.pat).1 (by simp)).trans h.pat
  res := (hg.block _ (Array.getElem?_eq_some_iff.1 h.res).1 (by have := h.lt; simp; omega)).trans h.res
  row := by
    obtain ⟨cells, hc⟩ := h.scan_typed
    exact Kd.R_mono (Kd.R_grown (Kd.R_types h.row hc (by decide)) hg (fun k hk => by simp; exact hk.2)) (fun _ hk => hk.1)
  below := below_grown h.below (by rw [h.eq]; exact Nat.le_refl _) hg (fun x hx => by injection hx with hx; have := h.lt; omega)
  eq := h.eq
  lt := h.lt
theorem CompInv.drewN (h : CompInv w wr n B v acc s) (m : Nat) : CompInv w (wr.drewN m) n B v acc s where
  scan := h.scan
  pat := h.pat
  res := h.res
  row := Kd.R_below h.row (pw_below_drewN (Below.refl _ _) m)
  below := pw_below_drewN h.below m
  eq := h.eq
  lt := h.lt
theorem CompInv.drew (h : CompInv w wr n B v acc s) : CompInv w wr.drew n B v acc s where
  scan := h.scan
  pat := h.pat
  res := h.res
  row := Kd.R_below h.row (below_drew (Below.refl _ _))
  below := below_drew h.below
  eq := h.eq
  lt := h.lt
theorem set_heap10 {w : World} {b : Nat} {x u : Value} {ty : TypeId} (h : w.heap[b]? = some (.cells #[x] ty (0, 0))) : (w.setCell ⟨b, 0, none⟩ u).heap[b]? = some (.cells #[u] ty (0, 0)) := by
  simp [World.setCell, Array.getElem?_modify, h]
theorem CompInv.after (h : CompInv w wr n B v acc s) (hg : wr.grownBy w1 v.ownBlock) : w1.cell? ⟨B + 1, 0, none⟩ = some v ∧ w1.frozen? ⟨B + 1, 0, none⟩ = false := by
  have ha1 : some (B + 1) ≠ v.ownBlock := Kd.R_ne h.row h.pat (by decide)
  have at1 : w1.heap[B + 1]? = some (.cells #[v] 48 (0, 0)) := (hg.block _ (Array.getElem?_eq_some_iff.1 h.pat).1 ha1).trans h.pat
  exact ⟨by rw [cell_of at1]; rfl, frozen_of at1 0⟩
theorem CompInv.app (h : CompInv w wr n B v acc s) {v1 : Value} {acc1 : List Atom} (hr : atomK.R 60 w1 n (fun _ => True) v1 acc1) (hg : wr.grownBy w1 v.ownBlock) :
    CompInv w (w1.setCell ⟨B + 1, 0, none⟩ v1) n B v1 acc1 s := by
  obtain ⟨inner, ho⟩ := Kd.R_own h.row
  obtain ⟨sc, hsc⟩ := h.scan_typed
  have hb1 : some B ≠ v.ownBlock := Kd.R_ne h.row hsc (by decide)
  have ha1 : some (B + 1) ≠ v.ownBlock := Kd.R_ne h.row h.pat (by decide)
  have hr1 : some n ≠ v.ownBlock := Kd.R_ne h.row h.res (by decide)
  have at1 : w1.heap[B + 1]? = some (.cells #[v] 48 (0, 0)) := (hg.block _ (Array.getElem?_eq_some_iff.1 h.pat).1 ha1).trans h.pat
  have re1 : w1.heap[n]? = some (.cells #[.slice none 0 0] 48 (0, 0)) := (hg.block _ (Array.getElem?_eq_some_iff.1 h.res).1 hr1).trans h.res
  have sc1 : ScanAt w1 B s.1 s.2 := h.scan.grown hg hb1 (fun k hk => by
    obtain ⟨cells, hc⟩ := own_typed ho k hk
    exact .inr ⟨_, _, hc, by decide⟩)
  exact {
    scan := sc1.grown (row := some (B + 1)) (set_grown _ _ _ _) (by simp) (fun k hk => by injection hk with hk; subst hk; exact .inr ⟨_, _, at1, by decide⟩)
    pat := set_heap10 at1
    res := (Below.heap_setCell w1 ⟨B + 1, 0, none⟩ _ n (by have := h.lt; simp; omega)).trans re1
    row := Kd.R_set hr at1 (by decide) 0 _
    below := below_grown (below_grown h.below (by rw [h.eq]; exact Nat.le_refl _) hg (fun x hx => own_base ho x hx)) (by rw [h.eq]; exact Nat.le_refl _) (set_grown _ _ _ _) (fun x hx => by injection hx with hx; have := h.lt; omega)
    eq := h.eq
    lt := h.lt }
theorem CompInv.c0 (h : CompInv w wr n B v acc s) : wr.cell? ⟨B + 1, 0, none⟩ = some v := by rw [cell_of h.pat]; rfl
theorem CompInv.f0 (h : CompInv w wr n B v acc s) : wr.frozen? ⟨B + 1, 0, none⟩ = false := frozen_of h.pat 0
theorem CompInv.r0 (h : CompInv w wr n B v acc s) : wr.cell? ⟨n, 0, none⟩ = some (.slice none 0 0) := by rw [cell_of h.res]; rfl
theorem CompInv.rz (h : CompInv w wr n B v acc s) : wr.frozen? ⟨n, 0, none⟩ = false := frozen_of h.res 0
theorem CompInv.bad (h : CompInv w wr n B v acc s) : wr.cell? ⟨B, 1, none⟩ = some (.bool s.2) := by
  obtain ⟨x, hb, hl⟩ := h.scan
  rw [cell_of hb]; rfl
theorem CompInv.left (h : CompInv w wr n B v acc s) : ∃ A c, wr.cell? ⟨B, 0, none⟩ = some (.slice A s.1.length c) := by
  obtain ⟨x, hb, A, c, rfl, _⟩ := h.scan
  exact ⟨A, c, by rw [cell_of hb]; rfl⟩
/-- The result is written. -/
theorem CompInv.fin (h : CompInv w wr n B v acc s) (u : Value) : (wr.setCell ⟨n, 0, none⟩ u).heap[n]? = some (.cells #[u] 48 (0, 0)) ∧ atomK.R 60 (wr.setCell ⟨n, 0, none⟩ u) n (fun _ => True) v acc ∧ Below n w (wr.setCell ⟨n, 0, none⟩ u) :=
  ⟨set_heap10 h.res, Kd.R_set h.row h.res (by decide) 0 u, below_grown h.below (by rw [h.eq]; exact Nat.le_refl _) (set_grown _ _ _ _) (fun x hx => by injection hx with hx; omega)⟩
end
theorem atom42 (t : List Int) : atomP (42 :: t, false) = ((3, 0, false, []), (t, false)) := by simp [atomP, headD, nextS]
theorem atom63 (t : List Int) : atomP (63 :: t, false) = ((2, 0, false, []), (t, false)) := by simp [atomP, headD, nextS]
theorem atom91 (t : List Int) : atomP (91 :: t, false) = setP (t, false) := by simp [atomP, headD, nextS]
theorem atom92 (t : List Int) : atomP (92 :: t, false) = ((1, headD t, false, []), nextS (t, false)) := by simp [atomP, headD, nextS]
theorem atom_other {x : Int} (t : List Int) (h1 : x ≠ 42) (h2 : x ≠ 63) (h3 : x ≠ 91) (h4 : x ≠ 92) : atomP (x :: t, false) = ((1, x, false, []), (t, false)) := by simp [atomP, headD, nextS, h1, h2, h3, h4]
theorem CompInv.start {w W w1 : World} {v : Value} {l : List Int} (hW : W = w.alloc (.cells #[.slice none 0 0] 48)) (h1 : Below W.heap.size W w1) (hr : RunesR W w1 v l) :
    CompInv w ((w1.alloc (.cells #[v, .bool false] 56)).alloc (.cells #[.slice none 0 0] 48)) w.heap.size w1.heap.size (.slice none 0 0) [] (l, false) := by
  have hsz : W.heap.size = w.heap.size + 1 := by rw [hW]; exact size_alloc _ _
  have hs1 := h1.size
  have h2 := two_allocs w1 (.cells #[v, .bool false] 56) (.cells #[.slice none 0 0] 48)
  have hb0 : Below w.heap.size w W := by rw [hW]; exact (Below.refl _ _).alloc (Nat.le_refl _) _
  refine ⟨⟨v, ?_, ?_⟩, ?_, ?_, Kd.R_nil _ _ _ _ _, below_next (below_next hb0 h1) h2, rfl, by omega⟩
  · rw [heap_alloc_old _ _ (by rw [size_alloc]; omega)]; exact heap_alloc_new _ _
  · obtain ⟨A, c, he, hlc, hC⟩ := Kd.R_reads hr
    obtain ⟨inner, hl, hown⟩ := Kd.R_own hr
    rcases hown with ⟨hv, h0⟩ | ⟨g, cap, cur, hv, hg, hh, hlc2, hmx, _⟩
    · subst hv
      obtain rfl : l = [] := List.eq_nil_of_length_eq_zero h0
      exact ⟨none, 0, rfl, by simp, by omega, fun hn => absurd hn (by simp)⟩
    · subst hv
      injection he with hA hn hc
      subst hA hc
      have hmx' : cap ≤ 9223372036854775807 := hmx
      have hgl : g < w1.heap.size := (Array.getElem?_eq_some_iff.1 hh).1
      refine ⟨_, cap, rfl, hlc2, hmx', fun hn => ⟨g, 0, rfl, ⟨by omega, cur, (h2.block g hgl).trans hh⟩, fun j hj => ?_⟩⟩
      obtain ⟨ad, e, hc⟩ := hC.2.2 hn
      obtain ⟨cs, hl2, hk, hcell⟩ := hc j _ (List.getElem?_eq_getElem hj)
      have hk' : cs = [Value.int .i32 l[j]] := hk
      subst hk'
      have h3 := hcell 0 _ rfl
      injection e with e
      subst e
      have h4 : w1.cell? ⟨g, 0 + j, none⟩ = some (.int .i32 l[j]) := by rw [← Addr.add_lit]; simpa [Kd.int, Kd.scalar] using h3
      exact pw_cell_below h2 h4
  · rw [← size_alloc w1 (.cells #[v, .bool false] 56)]; exact heap_alloc_new _ _
  · refine (h2.block _ (by omega)).trans ((h1.block _ (by omega)).trans ?_)
    rw [hW]; exact heap_alloc_new _ _
set_option maxHeartbeats 8000000 in
theorem compile_any (s : ByteArray) (w : World) :
    Calls Try.prog 14 #[.string s] w fun e w' => ∃ v, e = .returned (.tuple #[.agg #[v], .int .i64 (compS s).2]) ∧ atomK.R 60 w' w.heap.size (fun _ => True) v (compS s).1 ∧ Below w.heap.size w w' := by
  by_cases hs : 65535 < s.size
  · have HC := Lib.hid (show compS s = ([], 5) by unfold compS; rw [if_pos hs])
    have hsI : (65535 : Int) < s.size := by omega
    have hh := heap_alloc_new w (.cells #[.slice none 0 0] 48)
    have HH := Lib.hid hh
    have c0 : (w.alloc (.cells #[.slice none 0 0] 48)).cell? ⟨w.heap.size, 0, none⟩ = some (.slice none 0 0) := by rw [cell_of hh]; rfl
    have f0 : (w.alloc (.cells #[.slice none 0 0] 48)).frozen? ⟨w.heap.size, 0, none⟩ = false := frozen_of hh 0
    have HB := Lib.hid (show Below w.heap.size w (w.alloc (.cells #[.slice none 0 0] 48)) from (Below.refl _ _).alloc (Nat.le_refl _) _)
    clear hh
    go_enter Try.func14, Try.ntmps14
    go_wp2
    (try simp only [Exit.inBlock, Exit.then])
    refine bodyPost_ret (results_row_tmp (ty := 48) rfl _ _ w.heap.size _ _ _ _ rfl (heap_alloc_new _ _) Try.underlying48 rfl sizePat) rfl ?_
    exact ⟨_, by rw [HC.out]; rfl, by rw [HC.out]; exact Kd.R_nil _ _ _ _ _, HB.out⟩
  · have hsI : ¬ (65535 : Int) < s.size := by omega
    obtain ⟨R, hR⟩ := compLoop_some ((runesL s.data.toList).length + 1) (runesL s.data.toList, false) [] (by simp)
    have HCS := Lib.hid (show compS s = if R.1.2 then ([], 22) else (R.2, 0) by
      unfold compS compP
      rw [if_neg hs, hR]
      rcases R with ⟨⟨a, b⟩, c⟩
      cases b <;> rfl)
    have HR := Lib.hid hR
    have hlen0 : (runesL s.data.toList).length ≤ 65535 := by
      have := runes_len s.data.toList
      rw [← Lib.size_eq] at this
      omega
    clear hR
    obtain ⟨r0, hr0⟩ : ∃ r0, r0 = compS s := ⟨_, rfl⟩
    rw [← hr0] at HCS ⊢
    clear hr0
    go_enter Try.func14, Try.ntmps14
    go_wp2_with fail
    refine (runes_any s (by omega) _).mono ?_
    rintro e w1 ⟨v1, rfl, hr, hb⟩
    obtain ⟨A0, k0, rfl⟩ := Kd.R_slice hr
    have HI0 := Lib.hid (CompInv.start rfl hb hr)
    clear hr hb
    generalize runesL s.data.toList = l at *
    go_wp2
    generalize (w1.alloc (.cells #[.slice A0 l.length k0, .bool false] 56)).alloc (.cells #[.slice none 0 0] 48) = W0 at HI0 ⊢
    generalize w1.heap.size = B at HI0 ⊢
    obtain ⟨F, hF⟩ : ∃ F, F = l.length + 1 := ⟨_, rfl⟩
    rw [← hF] at HR
    have hF1 : F ≤ 65536 := by omega
    clear hF
    go_loopg [6] F (fun g v6 wr => ∃ (v : Value) (acc : List Atom) (s : St), acc.length + g ≤ 65536 ∧ s.1.length ≤ 65535 ∧ Hid (compLoop g s acc = some R) ∧ Hid (CompInv w wr w.heap.size B v acc s))
    case atStart => exact ⟨_, [], (l, false), by simpa using hF1, hlen0, HR, HI0⟩
    case round =>
      clear HR HI0
      obtain ⟨v, acc, ⟨sl, sb⟩, hacc, hlen, HR, HI⟩ := hrel
      simp only at hlen
      cases gk with
      | zero => exact absurd HR.out (by simp [compLoop])
      | succ g =>
        have hM := HR.out
        clear HR
        unfold compLoop at hM
        have cb := HI.out.bad
        simp only at cb
        obtain ⟨Al, cl, hc0⟩ := HI.out.left
        simp only at hc0
        cases sl with
        | nil =>
          rw [if_neg (by simp)] at hM
          have HM := Lib.hid (Option.some.inj hM)
          clear hM
          have hc1 : wr.cell? ⟨B, 0, none⟩ = some (.slice Al 0 cl) := hc0
          clear hc0
          cases sb with
          | true =>
            have r0 := HI.out.r0
            have rz := HI.out.rz
            go_wp2
            (try simp only [Exit.inBlock, Exit.then])
            have HF := HI.out.fin (.slice none 0 0)
            refine bodyPost_ret (results_row_tmp (ty := 48) rfl _ _ w.heap.size _ _ _ _ rfl HF.1 Try.underlying48 rfl sizePat) rfl ?_
            exact ⟨_, by rw [HCS.out, ← HM.out]; rfl, by rw [HCS.out, ← HM.out]; exact Kd.R_nil _ _ _ _ _, HF.2.2⟩

          | false =>
            obtain ⟨Av, cv, rfl⟩ := Kd.R_slice HI.out.row
            have p0 := HI.out.c0
            have r0 := HI.out.r0
            have rz := HI.out.rz
            go_wp2
            (try simp only [Exit.inBlock, Exit.then])
            have HF := HI.out.fin (.slice Av acc.length cv)
            refine bodyPost_ret (results_row_tmp (ty := 48) rfl _ _ w.heap.size _ _ _ _ rfl HF.1 Try.underlying48 rfl sizePat) rfl ?_
            exact ⟨_, by rw [HCS.out, ← HM.out]; rfl, by rw [HCS.out, ← HM.out]; exact HF.2.1, HF.2.2⟩

        | cons x t =>
          cases sb with
          | true =>
            rw [if_neg (by simp)] at hM
            have HM := Lib.hid (Option.some.inj hM)
            clear hM
            obtain ⟨nl, hnl, hnl0⟩ : ∃ nl : Nat, (x :: t).length = nl ∧ (0 : Int) < nl := ⟨_, rfl, by simp <;> omega⟩
            rw [hnl] at hc0
            clear hnl
            have r0 := HI.out.r0
            have rz := HI.out.rz
            go_wp2
            (try simp only [Exit.inBlock, Exit.then])
            have HF := HI.out.fin (.slice none 0 0)
            refine bodyPost_ret (results_row_tmp (ty := 48) rfl _ _ w.heap.size _ _ _ _ rfl HF.1 Try.underlying48 rfl sizePat) rfl ?_
            exact ⟨_, by rw [HCS.out, ← HM.out]; rfl, by rw [HCS.out, ← HM.out]; exact Kd.R_nil _ _ _ _ _, HF.2.2⟩

          | false =>
            rw [if_pos (by simp)] at hM
            have HM := Lib.hid hM
            clear hM
            obtain ⟨nl, hnl, hnl0⟩ : ∃ nl : Nat, (x :: t).length = nl ∧ (0 : Int) < nl := ⟨_, rfl, by simp <;> omega⟩
            rw [hnl] at hc0
            clear hnl
            go_wp2_with fail
            refine (next_any B (x :: t) false _ HI.out.scan).mono ?_
            rintro e w2 ⟨rfl, hs2, hg2⟩
            have HI2 : Hid (CompInv w w2 w.heap.size B v acc (t, false)) := Lib.hid (HI.out.call hg2 hs2)
            have hx : headD (x :: t) = x := rfl
            rw [hx]
            clear hs2 hg2 HI cb hc0 hx hnl0
            have p0 := HI2.out.c0
            by_cases h42 : x = 42
            · subst h42
              have HAT := Lib.hid (atom42 t)
              go_wp2_with (first | ((with_reducible refine gate_builtin (b := .append) (xs := #[.tmp 41, .tmp 43]) rfl ?_); at_builtin; refine Kd.R_append atomK (w0 := w2) w.heap.size rfl (.tmp 41) (.tmp 43) 46 60 (.agg #[.int .i64 0, .int .i32 0, .bool false, .slice none 0 0]) 40 rfl Try.underlying46 infoAtom rfl (by decide) (by decide) _ acc (3, 0, false, ([] : List (Int × Int))) [.int .i64 (3), .int .i32 0, .bool false, .slice none 0 0] (fun _ => True) (fun _ => False) rfl rfl ?aP (fun _ hk => hk.elim) ?aF ?aO ?aB ?aS ?aL ?_; (case aP => exact ⟨[_], [_, _, _], rfl, rfl, [_], [_, _], rfl, rfl, [_], [_], rfl, rfl, .slice none 0 0, rfl, Kd.R_nil _ _ _ _ _⟩); (case aB => exact Below.refl _ _); (case aF => exact (fun _ _ => trivial)); (case aO => exact HI2.out.row); (case aS => exact (by rw [← HI2.out.eq]; exact HI2.out.sz)); (case aL => omega); intro v1 w5 ho hb5 hg5 hat5; obtain ⟨A1, c1, hv1⟩ := Kd.R_slice ho; generalize (acc ++ [(3, 0, false, ([] : List (Int × Int)))]).length = N at hv1; subst hv1; have HO := Lib.hid ho; have HG := Lib.hid hg5; clear ho hb5 hg5 hat5; have g1 := (HI2.out.after HG.out).1; have g2 := (HI2.out.after HG.out).2; have HI5 := Lib.hid (HI2.out.app HO.out HG.out)))
              go_roundg g
              case measure => omega
              case rel => exact ⟨.slice A1 N c1, acc ++ [(3, 0, false, [])], (t, false), by rw [List.length_append, List.length_singleton]; omega, by have := hlen; simp [nextS] at this ⊢ <;> omega, Lib.hid (by have := HM.out; rw [HAT.out] at this; exact this), HI5⟩

            · have q42 : (x == 42) = false := beq_eq_false_iff_ne.2 h42
              by_cases h63 : x = 63
              · subst h63
                have HAT := Lib.hid (atom63 t)
                go_wp2_with (first | ((with_reducible refine gate_builtin (b := .append) (xs := #[.tmp 49, .tmp 51]) rfl ?_); at_builtin; refine Kd.R_append atomK (w0 := w2) w.heap.size rfl (.tmp 49) (.tmp 51) 46 60 (.agg #[.int .i64 0, .int .i32 0, .bool false, .slice none 0 0]) 40 rfl Try.underlying46 infoAtom rfl (by decide) (by decide) _ acc (2, 0, false, ([] : List (Int × Int))) [.int .i64 (2), .int .i32 0, .bool false, .slice none 0 0] (fun _ => True) (fun _ => False) rfl rfl ?aP (fun _ hk => hk.elim) ?aF ?aO ?aB ?aS ?aL ?_; (case aP => exact ⟨[_], [_, _, _], rfl, rfl, [_], [_, _], rfl, rfl, [_], [_], rfl, rfl, .slice none 0 0, rfl, Kd.R_nil _ _ _ _ _⟩); (case aB => exact Below.refl _ _); (case aF => exact (fun _ _ => trivial)); (case aO => exact HI2.out.row); (case aS => exact (by rw [← HI2.out.eq]; exact HI2.out.sz)); (case aL => omega); intro v1 w5 ho hb5 hg5 hat5; obtain ⟨A1, c1, hv1⟩ := Kd.R_slice ho; generalize (acc ++ [(2, 0, false, ([] : List (Int × Int)))]).length = N at hv1; subst hv1; have HO := Lib.hid ho; have HG := Lib.hid hg5; clear ho hb5 hg5 hat5; have g1 := (HI2.out.after HG.out).1; have g2 := (HI2.out.after HG.out).2; have HI5 := Lib.hid (HI2.out.app HO.out HG.out)))
                go_roundg g
                case measure => omega
                case rel => exact ⟨.slice A1 N c1, acc ++ [(2, 0, false, [])], (t, false), by rw [List.length_append, List.length_singleton]; omega, by have := hlen; simp [nextS] at this ⊢ <;> omega, Lib.hid (by have := HM.out; rw [HAT.out] at this; exact this), HI5⟩

              · have q63 : (x == 63) = false := beq_eq_false_iff_ne.2 h63
                by_cases h91 : x = 91
                · subst h91
                  have HAT := Lib.hid (atom91 t)
                  go_wp2
                  have HI3 := Lib.hid HI2.out.drew
                  refine start_ (n := 8) (S := fun w' => w'.cell? ⟨B + 1, 0, none⟩ = some v) (ds := [7]) #[false, false, false, false, false, false, false, false] (by kernel_rfl) rfl rfl (HI3.out.c0) (fun hHeld => ?_)
                  refine pure_ (i := 0) (N := some 56) (v := ?_) (a' := ?_) #[true, false, false, false, false, false, false, false] rfl rfl (by kernel_rfl) (fun _ _ _ h => h) (Or.inl ⟨by rfl, ?_⟩) ?_ ?_
                  rotate_left
                  · intro w'
                    go_simp
                    with_reducible rfl
                  rotate_left
                  · simp only [Act.put, List.setIfInBounds_toArray, List.set_cons_zero, List.set_cons_succ, i64_w, i32_w]
                    rfl
                  refine pure_ (i := 2) (N := some 58) (v := ?_) (a' := ?_) #[true, false, true, false, false, false, false, false] rfl rfl (by kernel_rfl) (fun _ _ _ h => h) (Or.inl ⟨by rfl, ?_⟩) ?_ ?_
                  rotate_left
                  · intro w'
                    go_simp
                    with_reducible rfl
                  rotate_left
                  · simp only [Act.put, List.setIfInBounds_toArray, List.set_cons_zero, List.set_cons_succ, i64_w, i32_w]
                    rfl
                  refine take_ (i := 1) (N := some 57) (v := ?_) (a' := ?_) #[true, true, true, false, false, false, false, false] rfl rfl (by kernel_rfl) (fun _ _ _ h => h) (Or.inl ⟨by rfl, ?_⟩) hHeld ?_ ?_
                  rotate_left
                  · intro w' s0
                    go_simp
                    with_reducible rfl
                  rotate_left
                  · simp only [Act.put, List.setIfInBounds_toArray, List.set_cons_zero, List.set_cons_succ, i64_w, i32_w]
                    rfl
                  refine one_ (i := 3) (N := some 59) #[true, true, true, true, false, false, false, false] rfl rfl (by kernel_rfl) (by decide) (fun K hK => ?_)
                  refine goes_ Try.func18 (by kernel_rfl) rfl #[.pointer (some ⟨B, 0, none⟩)] (by rfl) rfl rfl (by simp only [List.map_toArray, List.map_cons, List.map_nil]; rfl) ?_
                  with_reducible refine (set_any B t false _ (by simp at hlen; omega) HI3.out.scan).mono ?_
                  rintro e w3 ⟨neg, rs, vs, s3, rfl, hset, hrow, hscan, hg⟩
                  refine ⟨_, rfl, ?_⟩
                  obtain ⟨inn, hown⟩ := Kd.R_own HI3.out.row
                  have HRN := Lib.hid (Kd.R_lower (Kd.R_new hrow hown) HI3.out.sz)
                  have HI4 := Lib.hid (HI3.out.call (s' := s3) hg hscan)
                  obtain ⟨Av, cv, rfl⟩ := Kd.R_slice hrow
                  have HSET := Lib.hid hset
                  clear hset hrow hscan hg hown
                  have HLS := Lib.hid (set_len (t, false))
                  refine hK.out _ _ (HI4.out.c0) (fun hHeld => ?_)
                  clear hK K
                  refine norm_ (a' := ?_) ?_ ?_
                  rotate_left
                  · show Act.put _ (some 59) _ = _
                    simp only [Act.put, List.setIfInBounds_toArray, List.set_cons_zero, List.set_cons_succ, i64_w, i32_w]
                    rfl
                  refine one_ (i := 4) (N := some 60) #[true, true, true, true, true, false, false, false] rfl rfl (by kernel_rfl) (by decide) (fun K hK => ?_)
                  refine value_ (w1 := ?_) (v := ?_) (by rfl) rfl ?_ ?_
                  rotate_left 2
                  · go_simp
                    constructor
                    · rfl
                    · rfl
                  refine hK.out _ _ (pw_cell_below ((Below.refl _ _).alloc (Nat.le_refl _) _) HI4.out.c0) (fun hHeld => ?_)
                  clear hK K
                  refine norm_ (a' := ?_) ?_ ?_
                  rotate_left
                  · show Act.put _ (some 60) _ = _
                    simp only [Act.put, List.setIfInBounds_toArray, List.set_cons_zero, List.set_cons_succ, i64_w, i32_w]
                    rfl
                  refine one_ (i := 5) (N := some 61) #[true, true, true, true, true, true, false, false] rfl rfl (by kernel_rfl) (by decide) (fun K hK => ?_)
                  refine Kd.R_append_step atomK (w0 := w3) w.heap.size (by rfl) (.tmp 57) (.tmp 60) 46 60 (.agg #[.int .i64 0, .int .i32 0, .bool false, .slice none 0 0]) 40 rfl Try.underlying46 infoAtom rfl (by decide) (by decide) _ acc (4, 0, neg, rs) [.int .i64 (4), .int .i32 0, .bool neg, (.slice Av rs.length cv)] (fun _ => True) (fun k => True ∧ some k ≠ v.ownBlock) rfl rfl ?aP (fun _ hk => hk) ?aF ?aO ?aB ?aS ?aL ?_
                  (case aP => exact ⟨[_], [_, _, _], rfl, rfl, [_], [_, _], rfl, rfl, [_], [_], rfl, rfl, _, rfl, HRN.out⟩)
                  (case aB => exact Below.refl _ _)
                  (case aF => exact (fun _ _ => trivial))
                  (case aO => exact HI4.out.row)
                  (case aS => exact (by rw [← HI4.out.eq]; exact HI4.out.sz))
                  (case aL => omega)
                  intro v1 w5 ho hb5 hg5 hat5
                  obtain ⟨A1, c1, hv1⟩ := Kd.R_slice ho
                  generalize (acc ++ [(4, 0, neg, rs)]).length = N at hv1
                  subst hv1
                  have HO := Lib.hid ho
                  have HG := Lib.hid hg5
                  clear ho hb5 hg5 hat5
                  have g1 := (HI4.out.after HG.out).1
                  have g2 := (HI4.out.after HG.out).2
                  have HI5 := Lib.hid (HI4.out.app HO.out HG.out)
                  refine hK.out _ _ (g1) (fun hHeld => ?_)
                  clear hK K
                  refine norm_ (a' := ?_) ?_ ?_
                  rotate_left
                  · show Act.put _ (some 61) _ = _
                    simp only [Act.put, List.setIfInBounds_toArray, List.set_cons_zero, List.set_cons_succ, i64_w, i32_w]
                    rfl
                  refine pure_ (i := 6) (N := some 62) (v := ?_) (a' := ?_) #[true, true, true, true, true, true, true, false] rfl rfl (by kernel_rfl) (fun _ _ _ h => h) (Or.inl ⟨by rfl, ?_⟩) ?_ ?_
                  rotate_left
                  · intro w'
                    go_simp
                    with_reducible rfl
                  rotate_left
                  · simp only [Act.put, List.setIfInBounds_toArray, List.set_cons_zero, List.set_cons_succ, i64_w, i32_w]
                    rfl
                  refine last_ (i := 7) (N := none) #[true, true, true, true, true, true, true, true] rfl rfl (by kernel_rfl) (by decide) (fun K hK => ?_)
                  refine skip_ (w1 := ?_) (by rfl) rfl ?_ ?_
                  rotate_left
                  · go_simp
                    rfl
                  refine hK.out _ _ ?_
                  clear hK K
                  refine done_ (by kernel_rfl) ?_

                  go_wp2
                  have HAT : Hid (atomP (91 :: t, false) = ((4, 0, neg, rs), s3)) := Lib.hid (by rw [HAT.out, HSET.out])
                  have hls : s3.1.length ≤ t.length := by have := HLS.out; rw [HSET.out] at this; exact this
                  go_roundg g
                  case measure => omega
                  case rel => exact ⟨.slice A1 N c1, acc ++ [(4, 0, neg, rs)], s3, by rw [List.length_append, List.length_singleton]; omega, by have := hlen; simp [nextS] at this ⊢ <;> omega, Lib.hid (by have := HM.out; rw [HAT.out] at this; exact this), HI5⟩

                · have q91 : (x == 91) = false := beq_eq_false_iff_ne.2 h91
                  by_cases h92 : x = 92
                  · subst h92
                    have HAT := Lib.hid (atom92 t)
                    go_wp2
                    have HI3 := Lib.hid HI2.out.drew
                    refine start_ (n := 9) (S := fun w' => w'.cell? ⟨B + 1, 0, none⟩ = some v) (ds := [8]) #[false, false, false, false, false, false, false, false, false] (by kernel_rfl) rfl rfl (HI3.out.c0) (fun hHeld => ?_)
                    refine pure_ (i := 0) (N := some 65) (v := ?_) (a' := ?_) #[true, false, false, false, false, false, false, false, false] rfl rfl (by kernel_rfl) (fun _ _ _ h => h) (Or.inl ⟨by rfl, ?_⟩) ?_ ?_
                    rotate_left
                    · intro w'
                      go_simp
                      with_reducible rfl
                    rotate_left
                    · simp only [Act.put, List.setIfInBounds_toArray, List.set_cons_zero, List.set_cons_succ, i64_w, i32_w]
                      rfl
                    refine pure_ (i := 2) (N := some 67) (v := ?_) (a' := ?_) #[true, false, true, false, false, false, false, false, false] rfl rfl (by kernel_rfl) (fun _ _ _ h => h) (Or.inl ⟨by rfl, ?_⟩) ?_ ?_
                    rotate_left
                    · intro w'
                      go_simp
                      with_reducible rfl
                    rotate_left
                    · simp only [Act.put, List.setIfInBounds_toArray, List.set_cons_zero, List.set_cons_succ, i64_w, i32_w]
                      rfl
                    refine take_ (i := 1) (N := some 66) (v := ?_) (a' := ?_) #[true, true, true, false, false, false, false, false, false] rfl rfl (by kernel_rfl) (fun _ _ _ h => h) (Or.inl ⟨by rfl, ?_⟩) hHeld ?_ ?_
                    rotate_left
                    · intro w' s0
                      go_simp
                      with_reducible rfl
                    rotate_left
                    · simp only [Act.put, List.setIfInBounds_toArray, List.set_cons_zero, List.set_cons_succ, i64_w, i32_w]
                      rfl
                    refine one_ (i := 3) (N := some 68) #[true, true, true, true, false, false, false, false, false] rfl rfl (by kernel_rfl) (by decide) (fun K hK => ?_)
                    refine goes_ Try.func17 (by kernel_rfl) rfl #[.pointer (some ⟨B, 0, none⟩)] (by rfl) rfl rfl (by simp only [List.map_toArray, List.map_cons, List.map_nil]; rfl) ?_
                    with_reducible refine (next_any B t false _ HI3.out.scan).mono ?_
                    rintro e w3 ⟨rfl, hscan, hg⟩
                    refine ⟨_, rfl, ?_⟩
                    have HI4 := Lib.hid (HI3.out.call (s' := nextS (t, false)) hg hscan)
                    clear hscan hg
                    obtain ⟨ru, hru⟩ : ∃ ru, ru = headD t := ⟨_, rfl⟩
                    rw [← hru]
                    have HRU := Lib.hid hru
                    clear hru
                    refine hK.out _ _ (HI4.out.c0) (fun hHeld => ?_)
                    clear hK K
                    refine norm_ (a' := ?_) ?_ ?_
                    rotate_left
                    · show Act.put _ (some 68) _ = _
                      simp only [Act.put, List.setIfInBounds_toArray, List.set_cons_zero, List.set_cons_succ, i64_w, i32_w]
                      rfl
                    refine pure_ (i := 4) (N := some 69) (v := ?_) (a' := ?_) #[true, true, true, true, true, false, false, false, false] rfl rfl (by kernel_rfl) (fun _ _ _ h => h) (Or.inl ⟨by rfl, ?_⟩) ?_ ?_
                    rotate_left
                    · intro w'
                      go_simp
                      with_reducible rfl
                    rotate_left
                    · simp only [Act.put, List.setIfInBounds_toArray, List.set_cons_zero, List.set_cons_succ, i64_w, i32_w]
                      rfl
                    refine one_ (i := 5) (N := some 70) #[true, true, true, true, true, true, false, false, false] rfl rfl (by kernel_rfl) (by decide) (fun K hK => ?_)
                    refine value_ (w1 := ?_) (v := ?_) (by rfl) rfl ?_ ?_
                    rotate_left 2
                    · go_simp
                      constructor
                      · rfl
                      · rfl
                    refine hK.out _ _ (pw_cell_below ((Below.refl _ _).alloc (Nat.le_refl _) _) HI4.out.c0) (fun hHeld => ?_)
                    clear hK K
                    refine norm_ (a' := ?_) ?_ ?_
                    rotate_left
                    · show Act.put _ (some 70) _ = _
                      simp only [Act.put, List.setIfInBounds_toArray, List.set_cons_zero, List.set_cons_succ, i64_w, i32_w]
                      rfl
                    refine one_ (i := 6) (N := some 71) #[true, true, true, true, true, true, true, false, false] rfl rfl (by kernel_rfl) (by decide) (fun K hK => ?_)
                    refine Kd.R_append_step atomK (w0 := w3) w.heap.size (by rfl) (.tmp 66) (.tmp 70) 46 60 (.agg #[.int .i64 0, .int .i32 0, .bool false, .slice none 0 0]) 40 rfl Try.underlying46 infoAtom rfl (by decide) (by decide) _ acc (1, ru, false, ([] : List (Int × Int))) [.int .i64 (1), .int .i32 ru, .bool false, .slice none 0 0] (fun _ => True) (fun _ => False) rfl rfl ?aP (fun _ hk => hk.elim) ?aF ?aO ?aB ?aS ?aL ?_
                    (case aP => exact ⟨[_], [_, _, _], rfl, rfl, [_], [_, _], rfl, rfl, [_], [_], rfl, rfl, .slice none 0 0, rfl, Kd.R_nil _ _ _ _ _⟩)
                    (case aB => exact Below.refl _ _)
                    (case aF => exact (fun _ _ => trivial))
                    (case aO => exact HI4.out.row)
                    (case aS => exact (by rw [← HI4.out.eq]; exact HI4.out.sz))
                    (case aL => omega)
                    intro v1 w5 ho hb5 hg5 hat5
                    obtain ⟨A1, c1, hv1⟩ := Kd.R_slice ho
                    generalize (acc ++ [(1, ru, false, ([] : List (Int × Int)))]).length = N at hv1
                    subst hv1
                    have HO := Lib.hid ho
                    have HG := Lib.hid hg5
                    clear ho hb5 hg5 hat5
                    have g1 := (HI4.out.after HG.out).1
                    have g2 := (HI4.out.after HG.out).2
                    have HI5 := Lib.hid (HI4.out.app HO.out HG.out)
                    refine hK.out _ _ (g1) (fun hHeld => ?_)
                    clear hK K
                    refine norm_ (a' := ?_) ?_ ?_
                    rotate_left
                    · show Act.put _ (some 71) _ = _
                      simp only [Act.put, List.setIfInBounds_toArray, List.set_cons_zero, List.set_cons_succ, i64_w, i32_w]
                      rfl
                    refine pure_ (i := 7) (N := some 72) (v := ?_) (a' := ?_) #[true, true, true, true, true, true, true, true, false] rfl rfl (by kernel_rfl) (fun _ _ _ h => h) (Or.inl ⟨by rfl, ?_⟩) ?_ ?_
                    rotate_left
                    · intro w'
                      go_simp
                      with_reducible rfl
                    rotate_left
                    · simp only [Act.put, List.setIfInBounds_toArray, List.set_cons_zero, List.set_cons_succ, i64_w, i32_w]
                      rfl
                    refine last_ (i := 8) (N := none) #[true, true, true, true, true, true, true, true, true] rfl rfl (by kernel_rfl) (by decide) (fun K hK => ?_)
                    refine skip_ (w1 := ?_) (by rfl) rfl ?_ ?_
                    rotate_left
                    · go_simp
                      rfl
                    refine hK.out _ _ ?_
                    clear hK K
                    refine done_ (by kernel_rfl) ?_

                    go_wp2
                    rw [← HRU.out] at HAT
                    go_roundg g
                    case measure => omega
                    case rel => exact ⟨.slice A1 N c1, acc ++ [(1, ru, false, [])], nextS (t, false), by rw [List.length_append, List.length_singleton]; omega, by have := hlen; simp [nextS] at this ⊢ <;> omega, Lib.hid (by have := HM.out; rw [HAT.out] at this; exact this), HI5⟩

                  · have q92 : (x == 92) = false := beq_eq_false_iff_ne.2 h92
                    have HAT := Lib.hid (atom_other t h42 h63 h91 h92)
                    go_wp2_with (first | ((with_reducible refine gate_builtin (b := .append) (xs := #[.tmp 32, .tmp 35]) rfl ?_); at_builtin; refine Kd.R_append atomK (w0 := w2) w.heap.size rfl (.tmp 32) (.tmp 35) 46 60 (.agg #[.int .i64 0, .int .i32 0, .bool false, .slice none 0 0]) 40 rfl Try.underlying46 infoAtom rfl (by decide) (by decide) _ acc (1, x, false, ([] : List (Int × Int))) [.int .i64 (1), .int .i32 x, .bool false, .slice none 0 0] (fun _ => True) (fun _ => False) rfl rfl ?aP (fun _ hk => hk.elim) ?aF ?aO ?aB ?aS ?aL ?_; (case aP => exact ⟨[_], [_, _, _], rfl, rfl, [_], [_, _], rfl, rfl, [_], [_], rfl, rfl, .slice none 0 0, rfl, Kd.R_nil _ _ _ _ _⟩); (case aB => exact Below.refl _ _); (case aF => exact (fun _ _ => trivial)); (case aO => exact HI2.out.row); (case aS => exact (by rw [← HI2.out.eq]; exact HI2.out.sz)); (case aL => omega); intro v1 w5 ho hb5 hg5 hat5; obtain ⟨A1, c1, hv1⟩ := Kd.R_slice ho; generalize (acc ++ [(1, x, false, ([] : List (Int × Int)))]).length = N at hv1; subst hv1; have HO := Lib.hid ho; have HG := Lib.hid hg5; clear ho hb5 hg5 hat5; have g1 := (HI2.out.after HG.out).1; have g2 := (HI2.out.after HG.out).2; have HI5 := Lib.hid (HI2.out.app HO.out HG.out)))
                    go_roundg g
                    case measure => omega
                    case rel => exact ⟨.slice A1 N c1, acc ++ [(1, x, false, [])], (t, false), by rw [List.length_append, List.length_singleton]; omega, by have := hlen; simp [nextS] at this ⊢ <;> omega, Lib.hid (by have := HM.out; rw [HAT.out] at this; exact this), HI5⟩

end Go.Proofs.Ytfogfkikkekmkaa.GlobComp
