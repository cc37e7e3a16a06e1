/- disk: where a path of one part leads. -/
import Derived.Test.YtfogfkikkekmkaaDoorDiskAt
import Derived.Deep.RegionHeld3
set_option linter.unusedVariables false
set_option linter.unusedSimpArgs false
namespace Go.Proofs.YtfogfkikkekmkaaDoor.DiskReal
open Go.RowKit Go.Proofs.YtfogfkikkekmkaaDoorW.PrintWords Go.Proofs.YtfogfkikkekmkaaDoorW.PrintLast Go.Proofs.YtfogfkikkekmkaaDoorW.PrintMore Go.Proofs.YtfogfkikkekmkaaDoor.NameLaw Go.Proofs.YtfogfkikkekmkaaDoor.NameCmp Go.Proofs.YtfogfkikkekmkaaDoor.NameWalk Go.Proofs.YtfogfkikkekmkaaDoor.Item Go.Proofs.YtfogfkikkekmkaaDoor.DiskAt

theorem infoStr : (Tryd.prog.info? 9).map (fun i => (i.zero, i.size, i.bytes)) = some (some (.string ByteArray.empty), 1, 16) := by kernel_rfl
theorem str_at {w : World} {A : Option Addr} {l : List ByteArray} (h : Kd.string.C w A l.length l) {k : Nat} (hk : k < l.length) : ∃ ad, A = some ad ∧ w.cell? (ad.add k) = some (.string l[k]) := by
  obtain ⟨ad, e, hc⟩ := h.2.2 (by omega)
  obtain ⟨cs, hl, hK, hcell⟩ := hc k _ (List.getElem?_eq_getElem hk)
  have hK' : cs = [Value.string l[k]] := hK
  subst hK'
  have := hcell 0 _ rfl
  exact ⟨ad, e, by simpa [Kd.string, Kd.scalar] using this⟩
set_option maxHeartbeats 1000000 in
theorem join_one (s : ByteArray) (A : Option Addr) (c : Nat) (w : World) (h : ∃ ad, A = some ad ∧ w.cell? ad = some (.string s)) :
    Calls Tryd.prog 52 #[.slice A 1 c, .string ⟨#[47]⟩] w fun e w' => e = .returned (.string s) ∧ Below w.heap.size w w' := by
  obtain ⟨ad, rfl, hc⟩ := h
  have hw0 : Go.RowKit.wrap64 0 = 0 := by unfold Go.RowKit.wrap64; omega
  go_enter Tryd.func52, Tryd.ntmps52
  go_wp2
  go_ret
  exact ⟨rfl, Below.refl _ _⟩
/-- A path of one part that may be. -/
structure OneP (s : ByteArray) : Prop where
  any : AnyAt s
  e : checkE s = 0
  d : checkD s = false
  p : checkP s = s
  parts : partsT s = [s]
  sz : s.size ≤ 1000
set_option maxHeartbeats 8000000 in
set_option maxRecDepth 100000 in
theorem real_one (s : ByteArray) (hs : OneP s) (b : Nat) (w : World) (hg : Glob w) :
    Calls Tryd.prog 18 #[.pointer (some ⟨b, 0, none⟩), .string s] w fun e w' => e = .returned (.tuple #[.string s, .int .i64 0]) ∧ Below w.heap.size w w' := by
  have HCK : Hid (∀ W, Glob W → Calls Tryd.prog 49 #[.string s] W fun e w' => e = .returned (.tuple #[.string s, .bool false, .int .i64 0]) ∧ Below W.heap.size W w') := Lib.hid (fun W hW => by
    have h := check_any s hs.any W hW (by have := hs.sz; omega)
    rw [hs.e, hs.d, hs.p] at h
    exact h)
  have HPT : Hid (∀ W, Glob W → Calls Tryd.prog 50 #[.string s] W (PartsPost s W)) := Lib.hid (fun W hW => parts_any s W hW (by have := hs.sz; omega))
  have HPS := Lib.hid hs.parts
  have HG := Lib.hid hg
  clear hs hg
  go_enter Tryd.func18, Tryd.ntmps18
  go_wp2_with fail
  refine (HCK.out _ HG.out).mono ?_
  rintro e w1 ⟨rfl, hb1⟩
  have HB1 := Lib.hid hb1
  have HG1 := Lib.hid (HG.out.below hb1)
  clear hb1
  go_wp2_with fail
  refine (HPT.out _ HG1.out).mono ?_
  rintro e w2 ⟨Ap, cp, rfl, hsa, hb2⟩
  rw [HPS.out] at hsa
  obtain ⟨ad, rfl, hcell⟩ := hsa.2 (by simp)
  have hcp := hcell 0 (by simp)
  have hcp : w2.cell? ad = some (.string s) := by rw [show ad.add 0 = ad by simp [Addr.add]] at hcp; exact hcp
  have hlen : (partsT s).length = 1 := by rw [HPS.out]; rfl
  rw [hlen]
  have HB2 := Lib.hid (below_next HB1.out hb2)
  have HG2 := Lib.hid (HG1.out.below hb2)
  have hb3 := below_one w2 (.cells #[.pointer (some ⟨b, 0, none⟩), .slice none 0 0, .int .i64 0, .int .i64 0] 84)
  have HB3 := Lib.hid (below_next HB2.out hb3)
  have HG3 := Lib.hid (HG2.out.below hb3)
  have HP3 := Lib.hid (pw_cell_below hb3 hcp)
  have HK3 := Lib.hid (heap_new w2 (.cells #[.pointer (some ⟨b, 0, none⟩), .slice none 0 0, .int .i64 0, .int .i64 0] 84))
  clear hb2 hsa hcell hcp hlen hb3
  go_wp2
  generalize w2.alloc (.cells #[.pointer (some ⟨b, 0, none⟩), .slice none 0 0, .int .i64 0, .int .i64 0] 84) = W3 at *
  generalize w2.heap.size = bw at *
  go_loopw [41] (fun i wr => i = .int .i64 0 ∧ wr = W3) (fun _ _ => 0)
  case atStart => exact ⟨rfl, rfl⟩
  case round =>
    obtain ⟨rfl, rfl⟩ := hrel
    have hw0 : Go.RowKit.wrap64 0 = 0 := by unfold Go.RowKit.wrap64; omega
    have k3 : wr.cell? ⟨bw, 3, none⟩ = some (.int .i64 0) := by rw [cell_of HK3.out]; rfl
    go_wp2
    have HB4 := Lib.hid (below_drew HB3.out)
    have HG4 := Lib.hid (HG3.out.below (below_drew (Below.refl _ _)))
    have HW1 : Hid (wr.drew.cell? ⟨bw, 1, none⟩ = some (.slice none 0 0)) := Lib.hid (by show wr.cell? _ = _; rw [cell_of HK3.out]; rfl)
    have HP1 : Hid (wr.drew.cell? ad = some (.string s)) := Lib.hid HP3.out
    refine start_ (n := 14) (S := fun w' => w'.cell? ⟨bw, 1, none⟩ = some (.slice none 0 0) ∧ w'.cell? ad = some (.string s)) (ds := []) #[false, false, false, false, false, false, false, false, false, false, false, false, false, false] (by kernel_rfl) rfl rfl ⟨HW1.out, HP1.out⟩ (fun hHeld => ?_)
    generalize wr.drew = W4 at *
    refine pure_ (i := 0) (N := some 58) (v := ?_) (a' := ?_) #[true, false, false, false, false, false, false, false, false, false, false, false, false, false] rfl rfl (by kernel_rfl) (fun _ _ _ h => h) (Or.inl ⟨by rfl, ?_⟩) ?_ ?_
    rotate_left
    · intro w'
      go_simp
      with_reducible rfl
    rotate_left
    · simp only [Act.put, List.setIfInBounds_toArray, List.set_cons_zero, List.set_cons_succ, i64_w, i32_w]
      rfl
    refine pure_ (i := 1) (N := some 59) (v := ?_) (a' := ?_) #[true, true, false, false, false, false, false, false, false, false, false, false, false, false] rfl rfl (by kernel_rfl) (fun _ _ _ h => h) (Or.inl ⟨by rfl, ?_⟩) ?_ ?_
    rotate_left
    · intro w'
      go_simp
      with_reducible rfl
    rotate_left
    · simp only [Act.put, List.setIfInBounds_toArray, List.set_cons_zero, List.set_cons_succ, i64_w, i32_w]
      rfl
    refine pure_ (i := 2) (N := some 60) (v := ?_) (a' := ?_) #[true, true, true, false, false, false, false, false, false, false, false, false, false, false] rfl rfl (by kernel_rfl) (fun _ _ _ h => h) (Or.inl ⟨by rfl, ?_⟩) ?_ ?_
    rotate_left
    · intro w'
      go_simp
      with_reducible rfl
    rotate_left
    · simp only [Act.put, List.setIfInBounds_toArray, List.set_cons_zero, List.set_cons_succ, i64_w, i32_w]
      rfl
    refine pure_ (i := 4) (N := some 62) (v := ?_) (a' := ?_) #[true, true, true, false, true, false, false, false, false, false, false, false, false, false] rfl rfl (by kernel_rfl) (fun _ _ _ h => h) (Or.inl ⟨by rfl, ?_⟩) ?_ ?_
    rotate_left
    · intro w'
      go_simp
      with_reducible rfl
    rotate_left
    · simp only [Act.put, List.setIfInBounds_toArray, List.set_cons_zero, List.set_cons_succ, i64_w, i32_w]
      rfl
    refine pure_ (i := 5) (N := some 63) (v := ?_) (a' := ?_) #[true, true, true, false, true, true, false, false, false, false, false, false, false, false] rfl rfl (by kernel_rfl) (fun _ _ _ h => h) (Or.inl ⟨by rfl, ?_⟩) ?_ ?_
    rotate_left
    · intro w'
      go_simp
      with_reducible rfl
    rotate_left
    · simp only [Act.put, List.setIfInBounds_toArray, List.set_cons_zero, List.set_cons_succ, i64_w, i32_w]
      rfl
    refine pure_ (i := 6) (N := some 64) (v := ?_) (a' := ?_) #[true, true, true, false, true, true, true, false, false, false, false, false, false, false] rfl rfl (by kernel_rfl) (fun _ _ _ h => h) (Or.inl ⟨by rfl, ?_⟩) ?_ ?_
    rotate_left
    · intro w'
      go_simp
      with_reducible rfl
    rotate_left
    · simp only [Act.put, List.setIfInBounds_toArray, List.set_cons_zero, List.set_cons_succ, i64_w, i32_w]
      rfl
    refine pure_ (i := 7) (N := some 65) (v := ?_) (a' := ?_) #[true, true, true, false, true, true, true, true, false, false, false, false, false, false] rfl rfl (by kernel_rfl) (fun _ _ _ h => h) (Or.inl ⟨by rfl, ?_⟩) ?_ ?_
    rotate_left
    · intro w'
      go_simp
      with_reducible rfl
    rotate_left
    · simp only [Act.put, List.setIfInBounds_toArray, List.set_cons_zero, List.set_cons_succ, i64_w, i32_w]
      rfl
    refine pure_ (i := 8) (N := some 66) (v := ?_) (a' := ?_) #[true, true, true, false, true, true, true, true, true, false, false, false, false, false] rfl rfl (by kernel_rfl) (fun _ _ _ h => h) (Or.inl ⟨by rfl, ?_⟩) ?_ ?_
    rotate_left
    · intro w'
      go_simp
      with_reducible rfl
    rotate_left
    · simp only [Act.put, List.setIfInBounds_toArray, List.set_cons_zero, List.set_cons_succ, i64_w, i32_w]
      rfl
    refine take_ (i := 3) (N := some 61) (v := ?_) (a' := ?_) #[true, true, true, true, true, true, true, true, true, false, false, false, false, false] rfl rfl (by kernel_rfl) (fun _ _ _ h => h) (Or.inl ⟨by rfl, ?_⟩) hHeld ?_ ?_
    rotate_left
    · rintro w' ⟨s0, s1⟩
      go_simp
      with_reducible rfl
    rotate_left
    · simp only [Act.put, List.setIfInBounds_toArray, List.set_cons_zero, List.set_cons_succ, i64_w, i32_w]
      rfl
    refine take_ (i := 9) (N := some 67) (v := ?_) (a' := ?_) #[true, true, true, true, true, true, true, true, true, true, false, false, false, false] rfl rfl (by kernel_rfl) (fun _ _ _ h => h) (Or.inl ⟨by rfl, ?_⟩) hHeld ?_ ?_
    rotate_left
    · rintro w' ⟨s0, s1⟩
      go_simp
      with_reducible rfl
    rotate_left
    · simp only [Act.put, List.setIfInBounds_toArray, List.set_cons_zero, List.set_cons_succ, i64_w, i32_w]
      rfl
    refine one_ (i := 10) (N := some 68) #[true, true, true, true, true, true, true, true, true, true, true, false, false, false] rfl rfl (by kernel_rfl) (by decide) (fun K hK => ?_)
    refine value_ (w1 := ?_) (v := ?_) (by rfl) rfl ?_ ?_
    rotate_left 2
    · go_simp
      constructor
      · rfl
      · rfl
    refine hK.out _ _ ⟨pw_cell_below (below_one _ _) HW1.out, pw_cell_below (below_one _ _) HP1.out⟩ (fun hHeld => ?_)
    clear hK K
    refine norm_ (a' := ?_) ?_ ?_
    rotate_left
    · show Act.put _ (some 68) _ = _
      simp only [Act.put, List.setIfInBounds_toArray, List.set_cons_zero, List.set_cons_succ, i64_w, i32_w]
      rfl
    refine one_ (i := 11) (N := some 69) #[true, true, true, true, true, true, true, true, true, true, true, true, false, false] rfl rfl (by kernel_rfl) (by decide) (fun K hK => ?_)
    refine Kd.R_append_step Kd.string (w0 := W4) W4.heap.size (by rfl) (.tmp 61) (.tmp 68) 44 9 (.string ByteArray.empty) 16 rfl Tryd.underlying44 infoStr rfl (by decide) (by decide) _ [] s [.string s] (fun _ => True) (fun _ => False) rfl rfl ?aP (fun _ hk => hk.elim) ?aF ?aO ?aB ?aS ?aL ?_
    (case aP => exact rfl)
    (case aB => exact Below.refl _ _)
    (case aF => exact (fun _ _ => trivial))
    (case aO => exact Kd.R_nil _ _ _ _ _)
    (case aS => exact Nat.le_refl _)
    (case aL => simp)
    intro v1 w5 ho hb5 hg5 hat5
    obtain ⟨A1, c1, rfl, hcc, hC⟩ := Kd.R_reads ho
    have HC1 := Lib.hid hC
    have HB5 := Lib.hid (below_next HB4.out hb5)
    have S5 : w5.cell? ⟨bw, 1, none⟩ = some (.slice none 0 0) := pw_cell_below hb5 HW1.out
    have T5 : w5.cell? ad = some (.string s) := pw_cell_below hb5 HP1.out
    clear ho hb5 hg5 hat5 hC hcc
    refine hK.out _ _ ⟨S5, T5⟩ (fun hHeld => ?_)
    clear hK K
    refine norm_ (a' := ?_) ?_ ?_
    rotate_left
    · show Act.put _ (some 69) _ = _
      simp only [Act.put, List.setIfInBounds_toArray, List.set_cons_zero, List.set_cons_succ, i64_w, i32_w]
      rfl
    refine one_ (i := 12) (N := some 70) #[true, true, true, true, true, true, true, true, true, true, true, true, true, false] rfl rfl (by kernel_rfl) (by decide) (fun K hK => ?_)
    refine goes_ Tryd.func52 (by kernel_rfl) rfl #[.slice A1 1 c1, .string ⟨#[47]⟩] (by rfl) rfl rfl (by simp only [List.map_toArray, List.map_cons, List.map_nil]; rfl) ?_
    with_reducible refine (join_one s A1 c1 _ (by obtain ⟨ad, e, h⟩ := str_at HC1.out (k := 0) (by simp); exact ⟨ad, e, by rw [show ad.add 0 = ad by simp [Addr.add]] at h; simpa using h⟩)).mono ?_
    rintro e w6 ⟨rfl, hb6⟩
    refine ⟨_, rfl, ?_⟩
    have HB6 := Lib.hid (below_next HB5.out hb6)
    have S6 : w6.cell? ⟨bw, 1, none⟩ = some (.slice none 0 0) := pw_cell_below hb6 S5
    have T6 : w6.cell? ad = some (.string s) := pw_cell_below hb6 T5
    clear hb6
    refine hK.out _ _ ⟨S6, T6⟩ (fun hHeld => ?_)
    clear hK K
    refine norm_ (a' := ?_) ?_ ?_
    rotate_left
    · show Act.put _ (some 70) _ = _
      simp only [Act.put, List.setIfInBounds_toArray, List.set_cons_zero, List.set_cons_succ, i64_w, i32_w]
      rfl
    refine pure_ (i := 13) (N := some 13) (v := ?_) (a' := ?_) #[true, true, true, true, true, true, true, true, true, true, true, true, true, true] rfl rfl (by kernel_rfl) (fun _ _ _ h => h) (Or.inl ⟨by rfl, ?_⟩) ?_ ?_
    rotate_left
    · intro w'
      go_simp
      with_reducible rfl
    rotate_left
    · simp only [Act.put, List.setIfInBounds_toArray, List.set_cons_zero, List.set_cons_succ, i64_w, i32_w]
      rfl
    refine done_ (by kernel_rfl) ?_

    go_wp2_with fail
    refine (HCK.out _ (HG.out.below HB6.out)).mono ?_
    rintro e w7 ⟨rfl, hb7⟩
    have HB7 := Lib.hid (below_next HB6.out hb7)
    clear hb7
    go_wp2
    go_ret2
    exact ⟨rfl, HB7.out⟩
set_option maxHeartbeats 1000000 in
theorem real_nil (s : ByteArray) (w : World) : Calls Tryd.prog 18 #[.pointer none, .string s] w fun e w' => e = .returned (.tuple #[.string ByteArray.empty, .int .i64 1]) ∧ Below w.heap.size w w' := by
  go_enter Tryd.func18, Tryd.ntmps18
  go_wp2
  go_ret2
  exact ⟨rfl, Below.refl _ _⟩
/-! ### a and b -/
theorem any_ascii (s : ByteArray) (hs : s.size < 4294967281) (ha : ∀ (j : Nat) b, s.data.toList[j]? = some b → b.toNat < 128) : AnyAt s := fun w _ =>
  Tryd.strings_ContainsAny_laid s ⟨#[0, 92]⟩ w hs (by decide) ha (by
    intro j b h
    have : b = 0 ∨ b = 92 := by
      match j, h with
      | 0, h => left; exact (Option.some.inj h).symm
      | 1, h => right; exact (Option.some.inj h).symm
      | j + 2, h => simp at h
    rcases this with rfl | rfl <;> decide)
abbrev tA : ByteArray := ⟨#[97]⟩
abbrev tB : ByteArray := ⟨#[98]⟩
theorem one_A : OneP tA := ⟨any_ascii _ (by decide) (by
    intro j b h
    match j, h with
    | 0, h => have : (97 : UInt8) = b := Option.some.inj h; subst this; decide
    | j + 1, h => simp at h), by decide +kernel, by decide +kernel, by decide +kernel, by decide +kernel, by decide⟩
theorem one_B : OneP tB := ⟨any_ascii _ (by decide) (by
    intro j b h
    match j, h with
    | 0, h => have : (98 : UInt8) = b := Option.some.inj h; subst this; decide
    | j + 1, h => simp at h), by decide +kernel, by decide +kernel, by decide +kernel, by decide +kernel, by decide⟩
end Go.Proofs.YtfogfkikkekmkaaDoor.DiskReal
