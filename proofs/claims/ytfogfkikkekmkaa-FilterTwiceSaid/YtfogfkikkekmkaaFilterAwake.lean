/- filter's law: the example; are patterns gone through here? -/
import Derived.Test.YtfogfkikkekmkaaFilterMake
set_option linter.unusedVariables false
set_option linter.unusedSimpArgs false
namespace Go.Proofs.Ytfogfkikkekmkaa.FilterAwake
open Go.RowKit Go.Proofs.YtfogfkikkekmkaaW.PrintWords Go.Proofs.YtfogfkikkekmkaaW.PrintLast Go.Proofs.YtfogfkikkekmkaaW.PrintMore Go.Proofs.Ytfogfkikkekmkaa.GlobScan Go.Proofs.Ytfogfkikkekmkaa.GlobTake Go.Proofs.Ytfogfkikkekmkaa.GlobMatch Go.Proofs.Ytfogfkikkekmkaa.GlobSet Go.Proofs.Ytfogfkikkekmkaa.GlobAny Go.Proofs.Ytfogfkikkekmkaa.FilterLaw Go.Proofs.Ytfogfkikkekmkaa.FilterComp Go.Proofs.Ytfogfkikkekmkaa.FilterMake

def okS (n : Nat) (s : ByteArray) : Bool := !(decide (110 < n) || decide (100 < s.size))
def lightP (l : List ByteArray) : Bool := l.all (okS l.length)
theorem all_drop {α : Type} {l : List α} (p : α → Bool) {k : Nat} (h : k < l.length) : (l.drop k).all p = (p l[k] && (l.drop (k + 1)).all p) := by
  rw [List.drop_eq_getElem_cons h]; rfl
set_option maxHeartbeats 1000000 in
theorem light_any (l : List ByteArray) (A : Option Addr) (c : Nat) (w : World) (hl : StrC w A l) :
    Calls Try.prog 6 #[.slice A l.length c] w fun e w' => e = .returned (.bool (lightP l)) ∧ Below w.heap.size w w' := by
  have HL := Lib.hid hl
  have l1 := hl.2.1
  clear hl
  obtain ⟨R, hR⟩ : ∃ R, R = lightP l := ⟨_, rfl⟩
  have HR0 := Lib.hid (show (l.drop 0).all (okS l.length) = R from hR.symm)
  rw [← hR]
  clear hR
  go_enter Try.func6, Try.ntmps6
  go_wp2
  go_loopw [7] (fun i wr => ∃ k : Nat, k ≤ l.length ∧ i = .int .i64 k ∧ Hid ((l.drop k).all (okS l.length) = R) ∧ Hid (Below w.heap.size w wr)) (fun i _ => l.length - (intOf i).toNat)
  case atStart => exact ⟨0, by omega, rfl, HR0, Lib.hid (Below.refl _ _)⟩
  case round =>
    clear HR0
    obtain ⟨k, hk, rfl, HR, HB⟩ := hrel
    by_cases hlt : k < l.length
    · obtain ⟨ad, rfl, hc⟩ := str_at (Kd.C_below HL.out HB.out) hlt
      have hltI : (k : Int) < l.length := by omega
      have hs := HR.out
      rw [all_drop _ hlt] at hs
      clear HR
      generalize l[k] = s at *
      by_cases h1 : 110 < l.length
      · have h1I : (110 : Int) < l.length := by omega
        have HS := Lib.hid (show R = false by rw [← hs]; simp [okS, h1])
        clear hs
        go_wp2
        go_ret
        exact ⟨by rw [HS.out]; rfl, HB.out⟩
      · have h1I : ¬ (110 : Int) < l.length := by omega
        by_cases h2 : 100 < s.size
        · have h2I : (100 : Int) < s.size := by omega
          have HS := Lib.hid (show R = false by rw [← hs]; simp [okS, h2])
          clear hs
          go_wp2
          go_ret
          exact ⟨by rw [HS.out]; rfl, HB.out⟩
        · have h2I : ¬ (100 : Int) < s.size := by omega
          have HS := Lib.hid (show (l.drop (k + 1)).all (okS l.length) = R by rw [← hs]; simp [okS, h1, h2])
          clear hs
          go_wp2
          go_roundw
          case rel => exact ⟨k + 1, by omega, by go_num, HS, HB⟩
          case measure => simp [intOf]; omega
    · have HS := Lib.hid (show R = true by rw [← HR.out, List.drop_of_length_le (by omega)]; rfl)
      go_wp2
      go_ret
      exact ⟨by rw [HS.out]; rfl, HB.out⟩
theorem str_one {W : World} {b : Nat} {s : ByteArray} (h : W.cell? ⟨b, 0, none⟩ = some (.string s)) : StrC W (some ⟨b, 0, none⟩) [s] :=
  ⟨rfl, by simp, fun _ => ⟨_, rfl, fun j p hj => by
    cases j with
    | succ j => simp at hj
    | zero =>
      have : s = p := by simpa using hj
      subst this
      refine ⟨[.string s], rfl, rfl, fun i u hu => ?_⟩
      cases i with
      | succ i => simp at hu
      | zero =>
        have : Value.string s = u := by simpa using hu
        subst this
        show W.cell? ((⟨b, 0, none⟩ : Addr).add 0) = _
        rw [Addr.add_lit]
        exact h⟩⟩
/-- A filter's block, and what it reads as. -/
def FAt (W : World) (b : Nat) (va vb : Value) (pa pb : List Pat) : Prop := W.cell? ⟨b, 0, none⟩ = some va ∧ W.cell? ⟨b, 1, none⟩ = some vb ∧ PatV W va pa ∧ PatV W vb pb
theorem FAt.below {W W1 : World} {b : Nat} {va vb : Value} {pa pb : List Pat} (h : FAt W b va vb pa pb) (hb : Below W.heap.size W W1) : FAt W1 b va vb pa pb :=
  ⟨pw_cell_below hb h.1, pw_cell_below hb h.2.1, h.2.2.1.below hb, h.2.2.2.below hb⟩
theorem below_one (W : World) (o : Obj) : Below W.heap.size W (W.alloc o) := (Below.refl _ _).alloc (Nat.le_refl _) _
theorem FAt.new {W : World} {va vb : Value} {pa pb : List Pat} (ha : PatV W va pa) (hb : PatV W vb pb) : FAt (W.alloc (.cells #[va, vb] 27)) W.heap.size va vb pa pb :=
  ⟨by rw [cell_of (heap_alloc_new W _)]; rfl, by rw [cell_of (heap_alloc_new W _)]; rfl, ha.below (below_one _ _), hb.below (below_one _ _)⟩
abbrev sGo : ByteArray := ⟨#[42, 46, 103, 111]⟩
abbrev sA : ByteArray := ⟨#[97, 42]⟩
abbrev pB : ByteArray := ⟨#[98, 46, 103, 111]⟩
abbrev pA : ByteArray := ⟨#[97, 46, 103, 111]⟩
theorem aw0 : (makeP [sGo] [sA]).2.2 = 0 := by kernel_rfl
theorem aw1 : takesF (makeP [sGo] [sA]).1 (makeP [sGo] [sA]).2.1 pB false = true := by kernel_rfl
theorem aw2 : takesF (makeP [sGo] [sA]).1 (makeP [sGo] [sA]).2.1 pA false = false := by kernel_rfl
set_option maxHeartbeats 1000000 in
theorem awake_any (w : World) : Calls Try.prog 5 #[] w fun e w' => e = .returned (.bool true) ∧ Below w.heap.size w w' := by
  have hb2 := two_allocs w (.cells #[.string sGo] 9) (.cells #[.string sA] 9)
  have d0 : ((w.alloc (.cells #[.string sGo] 9)).alloc (.cells #[.string sA] 9)).cell? ⟨w.heap.size, 0, none⟩ = some (.string sGo) := pw_cell_below (below_one (w.alloc (.cells #[.string sGo] 9)) _) (by rw [cell_of (heap_alloc_new w _)]; rfl)
  have d1 : ((w.alloc (.cells #[.string sGo] 9)).alloc (.cells #[.string sA] 9)).cell? ⟨w.heap.size + 1, 0, none⟩ = some (.string sA) := by
    rw [← size_alloc w (.cells #[.string sGo] 9), cell_of (heap_alloc_new _ _)]; rfl
  have HM := Lib.hid (make_any [sGo] [sA] _ 1 _ 1 _ (str_one d0) (str_one d1))
  have HB2 := Lib.hid hb2
  have HT1 : Hid (∀ W va vb, PatV W va (makeP [sGo] [sA]).1 → PatV W vb (makeP [sGo] [sA]).2.1 → Calls Try.prog 8 #[.agg #[va, vb], .string pB, .bool false] W fun e w' => e = .returned (.bool true) ∧ Below W.heap.size W w') :=
    Lib.hid (fun W va vb ha hb => by rw [← aw1]; exact ftakes_any _ _ va vb pB false W ha hb (by decide))
  have HT2 : Hid (∀ W va vb, PatV W va (makeP [sGo] [sA]).1 → PatV W vb (makeP [sGo] [sA]).2.1 → Calls Try.prog 8 #[.agg #[va, vb], .string pA, .bool false] W fun e w' => e = .returned (.bool false) ∧ Below W.heap.size W w') :=
    Lib.hid (fun W va vb ha hb => by rw [← aw2]; exact ftakes_any _ _ va vb pA false W ha hb (by decide))
  rw [aw0] at HM
  clear d0 d1 hb2
  generalize (makeP [sGo] [sA]).1 = pa at *
  generalize (makeP [sGo] [sA]).2.1 = pb at *
  go_enter Try.func5, Try.ntmps5
  go_wp2_with fail
  refine HM.out.mono ?_
  rintro e w1 ⟨va, vb, rfl, ha, hb, hbl⟩
  have HF := Lib.hid (FAt.new ha hb)
  have HB1 := Lib.hid (below_next (below_next HB2.out hbl) (below_one w1 (.cells #[va, vb] 27)))
  have f0 := HF.out.1
  have f1 := HF.out.2.1
  obtain ⟨A1, k1, rfl, _⟩ := ha
  obtain ⟨A2, k2, rfl, _⟩ := hb
  clear hbl HM HB2
  go_wp2_with fail
  generalize w1.alloc (.cells #[.slice A1 pa.length k1, .slice A2 pb.length k2] 27) = w2 at *
  generalize w1.heap.size = b1 at *
  refine (HT1.out _ _ _ HF.out.2.2.1 HF.out.2.2.2).mono ?_
  rintro e w3 ⟨rfl, hb3⟩
  have HF3 := Lib.hid (HF.out.below hb3)
  have HB3 := Lib.hid (below_next HB1.out hb3)
  clear hb3 f0 f1
  have f0 := HF3.out.1
  have f1 := HF3.out.2.1
  go_wp2_with fail
  refine (HT2.out _ _ _ HF3.out.2.2.1 HF3.out.2.2.2).mono ?_
  rintro e w4 ⟨rfl, hb4⟩
  have HB4 := Lib.hid (below_next HB3.out hb4)
  clear hb4
  go_wp2
  go_ret
  exact ⟨rfl, HB4.out⟩
end Go.Proofs.Ytfogfkikkekmkaa.FilterAwake
