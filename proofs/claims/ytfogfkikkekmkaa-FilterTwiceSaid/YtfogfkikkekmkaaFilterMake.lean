/- filter: a filter is made; which paths it takes. -/
import Derived.Test.YtfogfkikkekmkaaFilterComp
set_option linter.unusedVariables false
set_option linter.unusedSimpArgs false
namespace Go.Proofs.Ytfogfkikkekmkaa.FilterMake
open Go.RowKit Go.Proofs.YtfogfkikkekmkaaW.PrintWords Go.Proofs.YtfogfkikkekmkaaW.PrintLast Go.Proofs.YtfogfkikkekmkaaW.PrintMore Go.Proofs.Ytfogfkikkekmkaa.GlobScan Go.Proofs.Ytfogfkikkekmkaa.GlobRunes Go.Proofs.Ytfogfkikkekmkaa.GlobLaw Go.Proofs.Ytfogfkikkekmkaa.GlobTake Go.Proofs.Ytfogfkikkekmkaa.GlobMatch Go.Proofs.Ytfogfkikkekmkaa.GlobSet Go.Proofs.Ytfogfkikkekmkaa.GlobComp Go.Proofs.Ytfogfkikkekmkaa.GlobAny Go.Proofs.Ytfogfkikkekmkaa.FilterLaw Go.Proofs.Ytfogfkikkekmkaa.FilterComp

theorem atoms_of {w : World} {A : Option Addr} {l : List Atom} (h : atomK.C w A l.length l) (hl : l.length ≤ 65536) : AtomsAt w A l :=
  ⟨by omega, fun hn => by
    obtain ⟨ad, e, hc⟩ := h.2.2 hn
    refine ⟨ad, e, fun j hj => ?_⟩
    obtain ⟨cs, hl, hk, hcell⟩ := hc j _ (List.getElem?_eq_getElem hj)
    obtain ⟨a0, r0, rfl, ha0, a1, r1, rfl, ha1, a2, r2, rfl, ha2, R, c, rfl, _, hR⟩ := hk
    have ha0' : a0 = [Value.int .i64 l[j].1] := ha0
    have ha1' : a1 = [Value.int .i32 l[j].2.1] := ha1
    have ha2' : a2 = [Value.bool l[j].2.2.1] := ha2
    subst ha0' ha1' ha2'
    exact ⟨R, c, hcell 0 _ rfl, hcell 1 _ rfl, hcell 2 _ rfl, hcell 3 _ rfl, ranges_of hR⟩⟩
theorem pats_of {w : World} {A : Option Addr} {l : List Pat} (h : patK.C w A l.length l) (hs : ∀ p ∈ l, p.length ≤ 65536) (hl : l.length ≤ 65536) : PatsAt w A l :=
  ⟨by omega, fun hn => by
    obtain ⟨ad, e, hc⟩ := h.2.2 hn
    refine ⟨ad, e, fun j hj => ?_⟩
    obtain ⟨cs, hl, hk, hcell⟩ := hc j _ (List.getElem?_eq_getElem hj)
    obtain ⟨R, c, rfl, _, hC⟩ := hk
    have h0 := hcell 0 _ rfl
    exact ⟨R, c, by simpa [Kd.slice] using h0, atoms_of hC (hs _ (List.getElem_mem hj))⟩⟩
/-- A value that reads as patterns. -/
def PatV (w : World) (v : Value) (l : List Pat) : Prop := ∃ A c, v = .slice A l.length c ∧ PatsAt w A l
theorem PatV.below {w w1 : World} {v : Value} {l : List Pat} (h : PatV w v l) (hb : Below w.heap.size w w1) : PatV w1 v l := by
  obtain ⟨A, c, e, hp⟩ := h
  exact ⟨A, c, e, hp.below hb⟩
theorem patV_of {w : World} {base : Nat} {ok : Nat → Prop} {v : Value} {l : List ByteArray} (h : patK.R 48 w base ok v (compGo l []).1) (hl : l.length ≤ 1000) : PatV w v (compGo l []).1 := by
  obtain ⟨A, c, e, _, hC⟩ := Kd.R_reads h
  refine ⟨A, c, e, pats_of hC (compGo_small l [] (by simp)) ?_⟩
  by_cases h0 : (compGo l []).2 = 0
  · rw [compGo_len l [] h0]; simp; omega
  · have : ∀ (l : List ByteArray) (acc : List Pat), (compGo l acc).2 ≠ 0 → (compGo l acc).1 = [] := by
      intro l
      induction l with
      | nil => intro acc h; exact absurd rfl h
      | cons s t ih =>
        intro acc h
        unfold compGo at h ⊢
        by_cases h1 : (compS s).2 = 0
        · rw [if_pos h1] at h ⊢
          exact ih _ h
        · rw [if_neg h1]
    rw [this l [] h0]; simp
theorem PatV.nil (w : World) : PatV w (.slice none 0 0) [] := ⟨none, 0, rfl, PatsAt.nil _ _⟩
section
variable {w w2 : World} {n : Nat} {a b x y : Value}
theorem fin2 (hh : w2.heap[n]? = some (.cells #[a, b] 27 (0, 0))) : ((w2.setCell ⟨n, 0, none⟩ x).setCell ⟨n, 1, none⟩ y).heap[n]? = some (.cells #[x, y] 27 (0, 0)) := set_heap1 (set_heap0 hh)
theorem fin2R (hh : w2.heap[n]? = some (.cells #[a, b] 27 (0, 0))) {base : Nat} {ok : Nat → Prop} {v : Value} {l : List Pat} (hr : patK.R 48 w2 base ok v l) :
    patK.R 48 ((w2.setCell ⟨n, 0, none⟩ x).setCell ⟨n, 1, none⟩ y) base ok v l := Kd.R_set (Kd.R_set hr hh (by decide) 0 x) (set_heap0 (u := x) hh) (by decide) 1 y
theorem fin2B (hb : Below w.heap.size w w2) (hn : n = w.heap.size) (x y : Value) : Below w.heap.size w ((w2.setCell ⟨n, 0, none⟩ x).setCell ⟨n, 1, none⟩ y) :=
  below_grown (below_grown hb (Nat.le_refl _) (set_grown _ _ _ _) (fun k hk => by injection hk with hk; omega)) (Nat.le_refl _) (set_grown _ _ _ _) (fun k hk => by injection hk with hk; omega)
end
theorem make_many {i o : List ByteArray} (h : 100 < i.length ∨ 100 < o.length) : makeP i o = ([], [], 6) := by unfold makeP; rw [if_pos h]
theorem make_in {i o : List ByteArray} (h : ¬ (100 < i.length ∨ 100 < o.length)) (h1 : (compGo i []).2 ≠ 0) : makeP i o = ([], [], (compGo i []).2) := by unfold makeP; rw [if_neg h, if_neg h1]
theorem make_out {i o : List ByteArray} (h : ¬ (100 < i.length ∨ 100 < o.length)) (h1 : (compGo i []).2 = 0) (h2 : (compGo o []).2 ≠ 0) : makeP i o = ([], [], (compGo o []).2) := by unfold makeP; rw [if_neg h, if_pos h1, if_neg h2]
theorem make_ok {i o : List ByteArray} (h : ¬ (100 < i.length ∨ 100 < o.length)) (h1 : (compGo i []).2 = 0) (h2 : (compGo o []).2 = 0) : makeP i o = ((compGo i []).1, (compGo o []).1, 0) := by unfold makeP; rw [if_neg h, if_pos h1, if_pos h2]
set_option maxHeartbeats 2000000 in
theorem make_any (i o : List ByteArray) (A : Option Addr) (c : Nat) (B : Option Addr) (d : Nat) (w : World) (hi : StrC w A i) (ho : StrC w B o) :
    Calls Try.prog 7 #[.slice A i.length c, .slice B o.length d] w fun e w' => ∃ va vb, e = .returned (.tuple #[.agg #[va, vb], .int .i64 (makeP i o).2.2]) ∧ PatV w' va (makeP i o).1 ∧ PatV w' vb (makeP i o).2.1 ∧ Below w.heap.size w w' := by
  have hb0 : Below w.heap.size w (w.alloc (.cells #[.slice none 0 0, .slice none 0 0] 27)) := (Below.refl _ _).alloc (Nat.le_refl _) _
  have hh0 := heap_alloc_new w (.cells #[.slice none 0 0, .slice none 0 0] 27)
  by_cases hm : 100 < i.length ∨ 100 < o.length
  · have HM := Lib.hid (make_many hm)
    have HB0 := Lib.hid hb0
    have HH0 := Lib.hid hh0
    clear hb0 hh0 hi ho
    by_cases h1 : 100 < i.length
    · have h1I : (100 : Int) < i.length := by omega
      clear hm
      go_enter Try.func7, Try.ntmps7
      go_wp2
      (try simp only [Exit.inBlock, Exit.then])
      refine bodyPost_ret (results_row_tmp (ty := 27) rfl _ _ w.heap.size _ _ _ _ rfl (HH0.out) Try.underlying27 rfl sizeFilter) rfl ?_
      exact ⟨_, _, by rw [HM.out]; rfl, by rw [HM.out]; exact PatV.nil _, by rw [HM.out]; exact PatV.nil _, HB0.out⟩

    · have h1I : ¬ (100 : Int) < i.length := by omega
      have h2I : (100 : Int) < o.length := by omega
      clear hm
      go_enter Try.func7, Try.ntmps7
      go_wp2
      (try simp only [Exit.inBlock, Exit.then])
      refine bodyPost_ret (results_row_tmp (ty := 27) rfl _ _ w.heap.size _ _ _ _ rfl (HH0.out) Try.underlying27 rfl sizeFilter) rfl ?_
      exact ⟨_, _, by rw [HM.out]; rfl, by rw [HM.out]; exact PatV.nil _, by rw [HM.out]; exact PatV.nil _, HB0.out⟩

  · have h1I : ¬ (100 : Int) < i.length := by omega
    have h2I : ¬ (100 : Int) < o.length := by omega
    have hil : i.length ≤ 1000 := by omega
    have hol : o.length ≤ 1000 := by omega
    have HC1 := Lib.hid (fcomp_any i A c _ (Kd.C_below hi hb0) hil)
    have HO := Lib.hid (Kd.C_below ho hb0)
    have HB0 := Lib.hid hb0
    have HH0 := Lib.hid hh0
    have HM := Lib.hid hm
    have HMI := Lib.hid (fun h => make_in (o := o) hm h)
    have HMO := Lib.hid (fun h h2 => make_out (i := i) (o := o) hm h h2)
    have HMK := Lib.hid (fun h h2 => make_ok (i := i) (o := o) hm h h2)
    have HP1 := Lib.hid (fun (w : World) (base : Nat) (ok : Nat → Prop) (v : Value) (h : patK.R 48 w base ok v (compGo i []).1) => patV_of h hil)
    have HP2 := Lib.hid (fun (w : World) (base : Nat) (ok : Nat → Prop) (v : Value) (h : patK.R 48 w base ok v (compGo o []).1) => patV_of h hol)
    have HC2 : Hid (∀ W, StrC W B o → Calls Try.prog 12 #[.slice B o.length d] W fun e w' => ∃ v, e = .returned (.tuple #[v, .int .i64 (compGo o []).2]) ∧ patK.R 48 w' W.heap.size (fun _ => True) v (compGo o []).1 ∧ Below W.heap.size W w') := Lib.hid (fun W hW => fcomp_any o B d W hW hol)
    have n0 : w.heap.size < (w.alloc (.cells #[.slice none 0 0, .slice none 0 0] 27)).heap.size := by rw [size_alloc]; omega
    clear hi ho hb0 hh0 hm hil hol
    generalize makeP i o = M at *
    generalize compGo i [] = ci at *
    generalize compGo o [] = co at *
    obtain ⟨pa, ea⟩ := ci
    obtain ⟨pb, eb⟩ := co
    simp only at HC1 HC2 HMI HMO HMK HP1 HP2
    go_enter Try.func7, Try.ntmps7
    go_wp2_with fail
    refine HC1.out.mono ?_
    rintro e w1 ⟨va, rfl, hr, hb⟩
    have HR1 := Lib.hid hr
    have HB1 := Lib.hid (below_next HB0.out hb)
    have HH1 := Lib.hid ((hb.block _ n0).trans HH0.out)
    have HO1 := Lib.hid (Kd.C_below HO.out hb)
    clear hr hb
    by_cases he : ea = 0
    · subst he
      go_wp2_with fail
      refine (HC2.out _ HO1.out).mono ?_
      rintro e w2 ⟨vb, rfl, hr2, hb2⟩
      have HR2 := Lib.hid hr2
      have HR1 := Lib.hid (Kd.R_below HR1.out hb2)
      have HB2 := Lib.hid (below_next HB1.out hb2)
      have hh2 := (hb2.block w.heap.size (Array.getElem?_eq_some_iff.1 HH1.out).1).trans HH1.out
      have HH2 := Lib.hid hh2
      have r0 : w2.cell? ⟨w.heap.size, 0, none⟩ = some (.slice none 0 0) := by rw [cell_of hh2]; rfl
      have r1 : w2.cell? ⟨w.heap.size, 1, none⟩ = some (.slice none 0 0) := by rw [cell_of hh2]; rfl
      have z0 := frozen_of hh2 0
      have z1 := frozen_of hh2 1
      clear hr2 hb2 hh2
      by_cases he2 : eb = 0
      · subst he2
        obtain ⟨A1, k1, rfl⟩ := Kd.R_slice HR1.out
        obtain ⟨A2, k2, rfl⟩ := Kd.R_slice HR2.out
        have HE := Lib.hid (HMK.out (by first | rfl | trivial) (by first | rfl | trivial))
        go_wp2
        (try simp only [Exit.inBlock, Exit.then])
        refine bodyPost_ret (results_row_tmp (ty := 27) rfl _ _ w.heap.size _ _ _ _ rfl (fin2 HH2.out) Try.underlying27 rfl sizeFilter) rfl ?_
        exact ⟨_, _, by rw [HE.out]; rfl, by rw [HE.out]; exact HP1.out _ _ _ _ (fin2R HH2.out HR1.out), by rw [HE.out]; exact HP2.out _ _ _ _ (fin2R HH2.out HR2.out), fin2B HB2.out rfl _ _⟩

      · have HE := Lib.hid (HMO.out (by first | rfl | trivial) he2)
        have q1 : (eb != 0) = true := by simp [he2]
        have q2 : (eb == 0) = false := beq_eq_false_iff_ne.2 he2
        go_wp2
        (try simp only [Exit.inBlock, Exit.then])
        refine bodyPost_ret (results_row_tmp (ty := 27) rfl _ _ w.heap.size _ _ _ _ rfl (fin2 HH2.out) Try.underlying27 rfl sizeFilter) rfl ?_
        exact ⟨_, _, by rw [HE.out]; rfl, by rw [HE.out]; exact PatV.nil _, by rw [HE.out]; exact PatV.nil _, fin2B HB2.out rfl _ _⟩

    · have HE := Lib.hid (HMI.out he)
      have q1 : (ea != 0) = true := by simp [he]
      have q2 : (ea == 0) = false := beq_eq_false_iff_ne.2 he
      have r0 : w1.cell? ⟨w.heap.size, 0, none⟩ = some (.slice none 0 0) := by rw [cell_of HH1.out]; rfl
      have r1 : w1.cell? ⟨w.heap.size, 1, none⟩ = some (.slice none 0 0) := by rw [cell_of HH1.out]; rfl
      have z0 := frozen_of HH1.out 0
      have z1 := frozen_of HH1.out 1
      go_wp2
      (try simp only [Exit.inBlock, Exit.then])
      refine bodyPost_ret (results_row_tmp (ty := 27) rfl _ _ w.heap.size _ _ _ _ rfl (fin2 HH1.out) Try.underlying27 rfl sizeFilter) rfl ?_
      exact ⟨_, _, by rw [HE.out]; rfl, by rw [HE.out]; exact PatV.nil _, by rw [HE.out]; exact PatV.nil _, fin2B HB1.out rfl _ _⟩
set_option maxHeartbeats 2000000 in
theorem ftakes_any (pa pb : List Pat) (va vb : Value) (path : ByteArray) (dir : Bool) (w : World) (ha : PatV w va pa) (hb : PatV w vb pb) (hs : path.size ≤ 900000) :
    Calls Try.prog 8 #[.agg #[va, vb], .string path, .bool dir] w fun e w' => e = .returned (.bool (takesF pa pb path dir)) ∧ Below w.heap.size w w' := by
  obtain ⟨A, c, rfl, hA⟩ := ha
  obtain ⟨B, d, rfl, hB⟩ := hb
  have hb0 : Below w.heap.size w (w.alloc (.cells #[.slice A pa.length c, .slice B pb.length d] 27)) := (Below.refl _ _).alloc (Nat.le_refl _) _
  have c1 : (w.alloc (.cells #[.slice A pa.length c, .slice B pb.length d] 27)).cell? ⟨w.heap.size, 1, none⟩ = some (.slice B pb.length d) := by rw [cell_of (heap_alloc_new w _)]; rfl
  have HC1 := Lib.hid (hits_any path dir hs A c pa _ (hA.below hb0))
  have HC2 : Hid (∀ W, PatsAt W B pb → Calls Try.prog 13 #[.slice B pb.length d, .string path, .bool dir] W fun e w' => e = .returned (.bool (hitsP pb path dir)) ∧ Below W.heap.size W w') := Lib.hid (fun W hW => hits_any path dir hs B d pb W hW)
  have HBP := Lib.hid (hB.below hb0)
  have HB0 := Lib.hid hb0
  have HR := Lib.hid (show takesF pa pb path dir = ((decide (pa.length = 0) || hitsP pa path dir) && !hitsP pb path dir) from rfl)
  generalize takesF pa pb path dir = R at *
  clear hb0 hA hB
  generalize hitsP pa path dir = r1 at *
  generalize hn : pa.length = n at *
  clear hn
  by_cases h0 : n = 0
  · subst h0
    generalize hitsP pb path dir = r2 at *
    clear HC1
    go_enter Try.func8, Try.ntmps8
    go_wp2_with (go_at_call 13; refine (HC2.out _ HBP.out).mono ?_; rintro e w1 ⟨rfl, hb⟩; have HB := Lib.hid (below_next HB0.out hb); clear hb)
    go_ret
    exact ⟨by rw [HR.out]; simp, HB.out⟩
  · have q0 : ((n : Int) == 0) = false := beq_eq_false_iff_ne.2 (by omega)
    have h0I : ¬ (n : Int) = 0 := by omega
    cases r1 with
    | false =>
      clear HC2
      go_enter Try.func8, Try.ntmps8
      go_wp2_with (go_at_call 13; refine HC1.out.mono ?_; rintro e w1 ⟨rfl, hb⟩; have HB := Lib.hid (below_next HB0.out hb); clear hb)
      go_ret
      exact ⟨by rw [HR.out]; simp [h0], HB.out⟩
    | true =>
      generalize hitsP pb path dir = r2 at *
      go_enter Try.func8, Try.ntmps8
      go_wp2_with fail
      refine HC1.out.mono ?_
      rintro e w1 ⟨rfl, hb⟩
      have HB := Lib.hid (below_next HB0.out hb)
      have HBP1 := Lib.hid (HBP.out.below hb)
      have c2 := pw_cell_below hb c1
      clear hb c1
      go_wp2_with (go_at_call 13; refine (HC2.out _ HBP1.out).mono ?_; rintro e w2 ⟨rfl, hb⟩; have HB2 := Lib.hid (below_next HB.out hb); clear hb)
      go_ret
      exact ⟨by rw [HR.out]; simp, HB2.out⟩
end Go.Proofs.Ytfogfkikkekmkaa.FilterMake
