/- glob: is a rune an atom's? -/
import Derived.Test.YtfogfkikkekmkaaGlobLaw
import Derived.Shelf.Bodies
import Derived.DataElems
set_option linter.unusedVariables false
set_option linter.unusedSimpArgs false
namespace Go.Proofs.Ytfogfkikkekmkaa.GlobTake
open Go.RowKit Go.Proofs.YtfogfkikkekmkaaW.PrintWords Go.Proofs.YtfogfkikkekmkaaW.PrintLast Go.Proofs.YtfogfkikkekmkaaW.PrintMore Go.Proofs.Ytfogfkikkekmkaa.GlobScan Go.Proofs.Ytfogfkikkekmkaa.GlobRunes Go.Proofs.Ytfogfkikkekmkaa.GlobLaw

abbrev rangeK : Kd (Int × Int) := Kd.pair (Kd.int .i32) (Kd.int .i32)
abbrev atomK : Kd Atom := Kd.pair (Kd.int .i64) (Kd.pair (Kd.int .i32) (Kd.pair Kd.bool (Kd.slice 67 rangeK)))
/-- A row of ranges that is read. -/
def RangesAt (w : World) (A : Option Addr) (l : List (Int × Int)) : Prop :=
  l.length ≤ 9223372036854775807 ∧ (0 < l.length → ∃ ad, A = some ad ∧ ∀ j (h : j < l.length), w.cell? (ad.add (j * 2)) = some (.int .i32 l[j].1) ∧ w.cell? (ad.add (j * 2 + 1)) = some (.int .i32 l[j].2))
theorem RangesAt.below {w w1 : World} {A : Option Addr} {l : List (Int × Int)} (h : RangesAt w A l) (hb : Below w.heap.size w w1) : RangesAt w1 A l :=
  ⟨h.1, fun hn => by
    obtain ⟨ad, e, hc⟩ := h.2 hn
    exact ⟨ad, e, fun j hj => ⟨pw_cell_below hb (hc j hj).1, pw_cell_below hb (hc j hj).2⟩⟩⟩
theorem ranges_of {w : World} {A : Option Addr} {l : List (Int × Int)} (h : rangeK.C w A l.length l) : RangesAt w A l :=
  ⟨h.2.1, fun hn => by
    obtain ⟨ad, e, hc⟩ := h.2.2 hn
    refine ⟨ad, e, fun j hj => ?_⟩
    obtain ⟨cs, hl, hk, hcell⟩ := hc j _ (List.getElem?_eq_getElem hj)
    have hk' : cs = [.int .i32 l[j].1, .int .i32 l[j].2] := by
      obtain ⟨a, b, rfl, ha, hb⟩ := hk
      have ha' : a = [.int .i32 l[j].1] := ha
      have hb' : b = [.int .i32 l[j].2] := hb
      rw [ha', hb']; rfl
    subst hk'
    exact ⟨hcell 0 _ rfl, hcell 1 _ rfl⟩⟩
def inR (r : Int) (x : Int × Int) : Bool := decide (x.1 ≤ r) && decide (r ≤ x.2)
set_option maxHeartbeats 400000 in
theorem in_any (x y r : Int) (br : Nat) (w : World) (hr : w.cell? ⟨br, 0, none⟩ = some (.int .i32 r)) :
    Calls Try.prog 27 #[.agg #[.int .i32 x, .int .i32 y], .pointer (some ⟨br, 0, none⟩)] w fun e w' => e = .returned (.bool (inR r (x, y))) ∧ Below w.heap.size w w' := by
  have hr1 := pw_cell_below ((Below.refl w.heap.size w).alloc (Nat.le_refl _) (.cells #[.int .i32 x, .int .i32 y] 67)) hr
  have c0 : (w.alloc (.cells #[.int .i32 x, .int .i32 y] 67)).cell? ⟨w.heap.size, 0, none⟩ = some (.int .i32 x) := by rw [cell_of (heap_alloc_new w _)]; rfl
  have c1 : (w.alloc (.cells #[.int .i32 x, .int .i32 y] 67)).cell? ⟨w.heap.size, 1, none⟩ = some (.int .i32 y) := by rw [cell_of (heap_alloc_new w _)]; rfl
  by_cases h1 : x ≤ r
  · have HR := Lib.hid (show inR r (x, y) = decide (r ≤ y) by unfold inR; simp [h1])
    go_enter Try.func27, Try.ntmps27
    go_wp2
    go_ret
    exact ⟨by rw [HR.out]; rfl, (Below.refl _ _).alloc (Nat.le_refl _) _⟩
  · have HR := Lib.hid (show inR r (x, y) = false by unfold inR; simp [h1])
    go_enter Try.func27, Try.ntmps27
    go_wp2
    go_ret
    exact ⟨by rw [HR.out]; rfl, (Below.refl _ _).alloc (Nat.le_refl _) _⟩
theorem any_drop {α : Type} {l : List α} (p : α → Bool) {k : Nat} (h : k < l.length) : (l.drop k).any p = (p l[k] || (l.drop (k + 1)).any p) := by
  rw [List.drop_eq_getElem_cons h]; rfl
theorem below_next {w w1 w2 : World} (h : Below w.heap.size w w1) (k : Below w1.heap.size w1 w2) : Below w.heap.size w w2 := h.trans (k.mono h.size)
set_option maxHeartbeats 1000000 in
theorem rindex_any (r : Int) (br : Nat) (A : Option Addr) (c : Nat) (l : List (Int × Int)) (w : World) (hr : w.cell? ⟨br, 0, none⟩ = some (.int .i32 r)) (hl : RangesAt w A l) :
    Calls Try.prog 28 #[.slice A l.length c, .func (.func 27) #[] #[.pointer (some ⟨br, 0, none⟩)]] w fun e w' => ∃ i : Int, e = .returned (.int .i64 i) ∧ decide (0 ≤ i) = l.any (inR r) ∧ Below w.heap.size w w' := by
  have HL := Lib.hid hl
  have l1 := hl.1
  have HRc := Lib.hid hr
  clear hl hr
  obtain ⟨R, hR⟩ : ∃ R, R = l.any (inR r) := ⟨_, rfl⟩
  have HR0 := Lib.hid (show (l.drop 0).any (inR r) = R from hR.symm)
  rw [← hR]
  clear hR
  have eg := enters_of Try.func27 (by kernel_rfl) rfl
  go_enter Try.func28, Try.ntmps28
  go_wp2
  go_loopw [8] (fun i wr => ∃ k : Nat, k ≤ l.length ∧ i = .int .i64 k ∧ Hid ((l.drop k).any (inR r) = R) ∧ Hid (Below w.heap.size w wr)) (fun i _ => l.length - (intOf i).toNat)
  case atStart => exact ⟨0, by omega, rfl, HR0, Lib.hid (Below.refl _ _)⟩
  case round =>
    obtain ⟨k, hk, rfl, HR, HB⟩ := hrel
    by_cases hlt : k < l.length
    · obtain ⟨ad, rfl, hc⟩ := (HL.out.below HB.out).2 (by omega)
      have hc1 := (hc k hlt).1
      have hc2 := (hc k hlt).2
      have hltI : (k : Int) < l.length := by omega
      have hs := any_drop (inR r) hlt
      clear hc
      have hrr := pw_cell_below HB.out HRc.out
      obtain ⟨x, y, hxy⟩ : ∃ x y, l[k] = (x, y) := ⟨_, _, rfl⟩
      rw [hxy] at hc1 hc2 hs
      simp only at hc1 hc2
      have hc3 : wr.cell? ⟨(ad.add (k * 2)).block, (ad.add (k * 2)).off + 1, none⟩ = some (.int .i32 y) := by
        rw [← Addr.add_add] at hc2
        exact hc2
      have HC := Lib.hid (in_any x y r br wr hrr)
      clear hrr hxy
      by_cases hz : inR r (x, y) = true
      · rw [hz, Bool.true_or] at hs
        rw [hz] at HC
        have HS := Lib.hid hs
        clear hs hz
        go_wp2_with (go_at_call 27; refine HC.out.mono ?_; rintro e w2 ⟨rfl, hb2⟩; have HB2 := Lib.hid (below_next HB.out hb2); clear hb2)
        go_ret
        exact ⟨_, rfl, by rw [← HR.out, HS.out]; simp, HB2.out⟩
      · rw [Bool.eq_false_iff.2 hz, Bool.false_or] at hs
        rw [Bool.eq_false_iff.2 hz] at HC
        have HS := Lib.hid hs
        clear hs hz
        go_wp2_with (go_at_call 27; refine HC.out.mono ?_; rintro e w2 ⟨rfl, hb2⟩; have HB2 := Lib.hid (below_next HB.out hb2); clear hb2)
        go_roundw
        case rel => exact ⟨k + 1, by omega, by go_num, Lib.hid (by rw [← HS.out]; exact HR.out), HB2⟩
        case measure => simp [intOf]; omega
    · have HS := Lib.hid (show (l.drop k).any (inR r) = false by rw [List.drop_of_length_le (by omega)]; rfl)
      go_wp2
      go_ret
      exact ⟨-1, rfl, by rw [← HR.out, HS.out]; rfl, HB.out⟩
set_option maxHeartbeats 1000000 in
theorem rcontains_any (r : Int) (br : Nat) (A : Option Addr) (c : Nat) (l : List (Int × Int)) (w : World) (hr : w.cell? ⟨br, 0, none⟩ = some (.int .i32 r)) (hl : RangesAt w A l) :
    Calls Try.prog 26 #[.slice A l.length c, .func (.func 27) #[] #[.pointer (some ⟨br, 0, none⟩)]] w fun e w' => e = .returned (.bool (l.any (inR r))) ∧ Below w.heap.size w w' := by
  have HI := Lib.hid (rindex_any r br A c l w hr hl)
  obtain ⟨R, hR⟩ : ∃ R, R = l.any (inR r) := ⟨_, rfl⟩
  rw [← hR] at HI ⊢
  clear hl hr hR
  go_enter Try.func26, Try.ntmps26
  go_wp2_with (go_at_call 28; refine HI.out.mono ?_; rintro e w1 ⟨i, rfl, hi, hb⟩; have HB := Lib.hid hb; clear hb)
  go_ret
  exact ⟨by simp, HB.out⟩
theorem size_alloc (w : World) (o : Obj) : (w.alloc o).heap.size = w.heap.size + 1 := Array.size_push _
theorem two_allocs (w : World) (o p : Obj) : Below w.heap.size w ((w.alloc o).alloc p) := ((Below.refl _ _).alloc (Nat.le_refl _) _).alloc (by rw [size_alloc]; omega) _
theorem neg_cell (w : World) (a b c d : Value) (o : Obj) : ((w.alloc (.cells #[a, b, c, d] 60)).alloc o).cell? ⟨w.heap.size, 2, none⟩ = some c := by
  have h := pw_cell_below ((Below.refl (w.alloc (.cells #[a, b, c, d] 60)).heap.size (w.alloc (.cells #[a, b, c, d] 60))).alloc (Nat.le_refl _) o) (show (w.alloc (.cells #[a, b, c, d] 60)).cell? ⟨w.heap.size, 2, none⟩ = some c by rw [cell_of (heap_alloc_new w _)]; rfl)
  exact h
/-- An atom's value. -/
def atomV (a : Atom) (A : Option Addr) (c : Nat) : Value := .agg #[.int .i64 a.1, .int .i32 a.2.1, .bool a.2.2.1, .slice A a.2.2.2.length c]
set_option maxHeartbeats 1000000 in
theorem takes_any (kd ru : Int) (ng : Bool) (l : List (Int × Int)) (A : Option Addr) (c : Nat) (r : Int) (w : World) (hl : RangesAt w A l) :
    Calls Try.prog 25 #[.agg #[.int .i64 kd, .int .i32 ru, .bool ng, .slice A l.length c], .int .i32 r] w fun e w' => e = .returned (.bool (takesP (kd, ru, ng, l) r)) ∧ Below w.heap.size w w' := by
  obtain ⟨R, hR⟩ : ∃ R, R = takesP (kd, ru, ng, l) r := ⟨_, rfl⟩
  rw [← hR]
  unfold takesP at hR
  simp only at hR
  have HL := Lib.hid hl
  clear hl
  by_cases h1 : kd = 1
  · have HR := Lib.hid (show R = (ru == r) by rw [hR, if_pos h1])
    subst h1
    clear hR
    go_enter Try.func25, Try.ntmps25
    go_wp2
    go_ret
    exact ⟨by rw [HR.out]; rfl, two_allocs _ _ _⟩
  · rw [if_neg h1] at hR
    have q1 : (kd == 1) = false := beq_eq_false_iff_ne.2 h1
    by_cases h2 : kd = 2
    · have HR := Lib.hid (show R = true by rw [hR, if_pos h2])
      subst h2
      clear hR h1 q1
      go_enter Try.func25, Try.ntmps25
      go_wp2
      go_ret
      exact ⟨by rw [HR.out]; rfl, two_allocs _ _ _⟩
    · rw [if_neg h2] at hR
      have q2 : (kd == 2) = false := beq_eq_false_iff_ne.2 h2
      by_cases h4 : kd = 4
      · have HR := Lib.hid (show R = ((l.any (inR r)) != ng) by rw [hR, if_pos h4]; rfl)
        subst h4
        clear hR h1 h2 q1 q2
        go_enter Try.func25, Try.ntmps25
        have hr2 : ((w.alloc (.cells #[.int .i64 4, .int .i32 ru, .bool ng, .slice A l.length c] 60)).alloc (.cells #[.int .i32 r] 21)).cell? ⟨w.heap.size + 1, 0, none⟩ = some (.int .i32 r) := by
          rw [← size_alloc w (.cells #[.int .i64 4, .int .i32 ru, .bool ng, .slice A l.length c] 60), cell_of (heap_alloc_new _ _)]; rfl
        have HL2 := Lib.hid (HL.out.below (two_allocs w (.cells #[.int .i64 4, .int .i32 ru, .bool ng, .slice A l.length c] 60) (.cells #[.int .i32 r] 21)))
        have HR2 := Lib.hid hr2
        clear hr2
        go_wp2_with (go_at_call 26; refine (rcontains_any r (w.heap.size + 1) A c l _ HR2.out HL2.out).mono ?_; rintro e w3 ⟨rfl, hb⟩; have HB := Lib.hid ((two_allocs w _ _).trans (hb.mono (two_allocs w _ _).size)); have hng : w3.cell? ⟨w.heap.size, 2, none⟩ = some (.bool ng) := pw_cell_below hb (neg_cell w _ _ _ _ _); clear hb)
        go_ret
        exact ⟨by rw [HR.out]; rfl, HB.out⟩
      · have HR := Lib.hid (show R = false by rw [hR, if_neg h4])
        have q4 : (kd == 4) = false := beq_eq_false_iff_ne.2 h4
        clear hR h1 h2 h4
        go_enter Try.func25, Try.ntmps25
        go_wp2
        go_ret
        exact ⟨by rw [HR.out]; rfl, two_allocs _ _ _⟩
end Go.Proofs.Ytfogfkikkekmkaa.GlobTake
