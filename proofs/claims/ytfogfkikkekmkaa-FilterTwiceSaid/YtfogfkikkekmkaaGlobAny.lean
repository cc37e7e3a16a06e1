/- glob: is a text one of some patterns'? -/
import Derived.Test.YtfogfkikkekmkaaGlobMatch
import Derived.Test.YtfogfkikkekmkaaFilterLaw
set_option linter.unusedVariables false
set_option linter.unusedSimpArgs false
namespace Go.Proofs.Ytfogfkikkekmkaa.GlobAny
open Go.RowKit Go.Proofs.YtfogfkikkekmkaaW.PrintWords Go.Proofs.YtfogfkikkekmkaaW.PrintLast Go.Proofs.YtfogfkikkekmkaaW.PrintMore Go.Proofs.Ytfogfkikkekmkaa.GlobScan Go.Proofs.Ytfogfkikkekmkaa.GlobRunes Go.Proofs.Ytfogfkikkekmkaa.GlobLaw Go.Proofs.Ytfogfkikkekmkaa.GlobTake Go.Proofs.Ytfogfkikkekmkaa.GlobMatch Go.Proofs.Ytfogfkikkekmkaa.FilterLaw

/-- Patterns, read. -/
def PatsAt (w : World) (A : Option Addr) (l : List Pat) : Prop :=
  l.length ≤ 4611686018427387904 ∧ (0 < l.length → ∃ ad, A = some ad ∧ ∀ j (h : j < l.length), ∃ R c, w.cell? (ad.add j) = some (.slice R l[j].length c) ∧ AtomsAt w R l[j])
theorem PatsAt.below {w w1 : World} {A : Option Addr} {l : List Pat} (h : PatsAt w A l) (hb : Below w.heap.size w w1) : PatsAt w1 A l :=
  ⟨h.1, fun hn => by
    obtain ⟨ad, e, hc⟩ := h.2 hn
    refine ⟨ad, e, fun j hj => ?_⟩
    obtain ⟨R, c, h1, h2⟩ := hc j hj
    exact ⟨R, c, pw_cell_below hb h1, h2.below hb⟩⟩
theorem PatsAt.nil (w : World) (A : Option Addr) : PatsAt w A [] := ⟨by simp, fun h => absurd h (by simp)⟩
def hit (s : ByteArray) (p : Pat) : Bool := matchP p (runesL s.data.toList)
set_option maxHeartbeats 1000000 in
theorem one_any (p : Pat) (A : Option Addr) (c bs : Nat) (s : ByteArray) (hs : s.size ≤ 1000000) (w : World) (hp : AtomsAt w A p) (hc : w.cell? ⟨bs, 0, none⟩ = some (.string s)) :
    Calls Try.prog 20 #[.agg #[.slice A p.length c], .pointer (some ⟨bs, 0, none⟩)] w fun e w' => e = .returned (.bool (hit s p)) ∧ Below w.heap.size w w' := by
  have hb0 : Below w.heap.size w (w.alloc (.cells #[.slice A p.length c] 48)) := (Below.refl _ _).alloc (Nat.le_refl _) _
  have HB0 := Lib.hid hb0
  have HP := Lib.hid (hp.below hb0)
  have hc1 := pw_cell_below hb0 hc
  have c0 : (w.alloc (.cells #[.slice A p.length c] 48)).cell? ⟨w.heap.size, 0, none⟩ = some (.slice A p.length c) := by rw [cell_of (heap_alloc_new w _)]; rfl
  clear hb0 hp hc
  obtain ⟨R, hR⟩ : ∃ R, R = hit s p := ⟨_, rfl⟩
  have HC := Lib.hid (matches_any p A c s hs _ HP.out)
  rw [show matchP p (runesL s.data.toList) = R from hR.symm] at HC
  rw [← hR]
  clear hR HP
  go_enter Try.func20, Try.ntmps20
  go_wp2_with (go_at_call 21; refine HC.out.mono ?_; rintro e w2 ⟨rfl, hb2⟩; have HB2 := Lib.hid (below_next HB0.out hb2); clear hb2)
  go_ret
  exact ⟨rfl, HB2.out⟩
set_option maxHeartbeats 1000000 in
theorem pindex_any (s : ByteArray) (hs : s.size ≤ 1000000) (br : Nat) (A : Option Addr) (c : Nat) (l : List Pat) (w : World) (hr : w.cell? ⟨br, 0, none⟩ = some (.string s)) (hl : PatsAt w A l) :
    Calls Try.prog 24 #[.slice A l.length c, .func (.func 20) #[] #[.pointer (some ⟨br, 0, none⟩)]] w fun e w' => ∃ i : Int, e = .returned (.int .i64 i) ∧ decide (0 ≤ i) = l.any (hit s) ∧ Below w.heap.size w w' := by
  have HL := Lib.hid hl
  have l1 := hl.1
  have HRc := Lib.hid hr
  clear hl hr
  obtain ⟨R, hR⟩ : ∃ R, R = l.any (hit s) := ⟨_, rfl⟩
  have HR0 := Lib.hid (show (l.drop 0).any (hit s) = R from hR.symm)
  rw [← hR]
  clear hR
  have eg := enters_of Try.func20 (by kernel_rfl) rfl
  go_enter Try.func24, Try.ntmps24
  go_wp2
  go_loopw [8] (fun i wr => ∃ k : Nat, k ≤ l.length ∧ i = .int .i64 k ∧ Hid ((l.drop k).any (hit s) = R) ∧ Hid (Below w.heap.size w wr)) (fun i _ => l.length - (intOf i).toNat)
  case atStart => exact ⟨0, by omega, rfl, HR0, Lib.hid (Below.refl _ _)⟩
  case round =>
    obtain ⟨k, hk, rfl, HR, HB⟩ := hrel
    by_cases hlt : k < l.length
    · obtain ⟨ad, rfl, hc⟩ := (HL.out.below HB.out).2 (by omega)
      obtain ⟨Ra, ca, hc1, hc2⟩ := hc k hlt
      have hltI : (k : Int) < l.length := by omega
      have hs1 := any_drop (hit s) hlt
      clear hc
      have hrr := pw_cell_below HB.out HRc.out
      generalize l[k] = p at *
      have HC := Lib.hid (one_any p Ra ca br s hs wr hc2 hrr)
      clear hrr hc2
      by_cases hz : hit s p = true
      · rw [hz, Bool.true_or] at hs1
        rw [hz] at HC
        have HS := Lib.hid hs1
        clear hs1 hz
        go_wp2_with (go_at_call 20; refine HC.out.mono ?_; rintro e w2 ⟨rfl, hb2⟩; have HB2 := Lib.hid (below_next HB.out hb2); clear hb2)
        go_ret
        exact ⟨_, rfl, by rw [← HR.out, HS.out]; simp, HB2.out⟩
      · rw [Bool.eq_false_iff.2 hz, Bool.false_or] at hs1
        rw [Bool.eq_false_iff.2 hz] at HC
        have HS := Lib.hid hs1
        clear hs1 hz
        go_wp2_with (go_at_call 20; refine HC.out.mono ?_; rintro e w2 ⟨rfl, hb2⟩; have HB2 := Lib.hid (below_next HB.out hb2); clear hb2)
        go_roundw
        case rel => exact ⟨k + 1, by omega, by go_num, Lib.hid (by rw [← HS.out]; exact HR.out), HB2⟩
        case measure => simp [intOf]; omega
    · have HS := Lib.hid (show (l.drop k).any (hit s) = false by rw [List.drop_of_length_le (by omega)]; rfl)
      go_wp2
      go_ret
      exact ⟨-1, rfl, by rw [← HR.out, HS.out]; rfl, HB.out⟩
set_option maxHeartbeats 1000000 in
theorem pcontains_any (s : ByteArray) (hs : s.size ≤ 1000000) (br : Nat) (A : Option Addr) (c : Nat) (l : List Pat) (w : World) (hr : w.cell? ⟨br, 0, none⟩ = some (.string s)) (hl : PatsAt w A l) :
    Calls Try.prog 19 #[.slice A l.length c, .func (.func 20) #[] #[.pointer (some ⟨br, 0, none⟩)]] w fun e w' => e = .returned (.bool (l.any (hit s))) ∧ Below w.heap.size w w' := by
  have HI := Lib.hid (pindex_any s hs br A c l w hr hl)
  obtain ⟨R, hR⟩ : ∃ R, R = l.any (hit s) := ⟨_, rfl⟩
  rw [← hR] at HI ⊢
  clear hl hr hR
  go_enter Try.func19, Try.ntmps19
  go_wp2_with (go_at_call 24; refine HI.out.mono ?_; rintro e w1 ⟨i, rfl, hi, hb⟩; have HB := Lib.hid hb; clear hb)
  go_ret
  exact ⟨by simp, HB.out⟩
set_option maxHeartbeats 1000000 in
theorem any_any (s : ByteArray) (hs : s.size ≤ 1000000) (A : Option Addr) (c : Nat) (l : List Pat) (w : World) (hl : PatsAt w A l) :
    Calls Try.prog 15 #[.slice A l.length c, .string s] w fun e w' => e = .returned (.bool (anyP l s)) ∧ Below w.heap.size w w' := by
  have hb0 : Below w.heap.size w (w.alloc (.cells #[.string s] 9)) := (Below.refl _ _).alloc (Nat.le_refl _) _
  have HB0 := Lib.hid hb0
  have HC := Lib.hid (pcontains_any s hs w.heap.size A c l _ (by rw [cell_of (heap_alloc_new w _)]; rfl) (hl.below hb0))
  obtain ⟨R, hR⟩ : ∃ R, R = l.any (hit s) := ⟨_, rfl⟩
  rw [← hR] at HC
  rw [show anyP l s = R from hR.symm]
  clear hl hR hb0
  go_enter Try.func15, Try.ntmps15
  go_wp2_with (go_at_call 19; refine HC.out.mono ?_; rintro e w1 ⟨rfl, hb⟩; have HB := Lib.hid (below_next HB0.out hb); clear hb)
  go_ret
  exact ⟨rfl, HB.out⟩
/-! ### the filter -/
set_option maxHeartbeats 1000000 in
theorem hits_any (path : ByteArray) (dir : Bool) (hs : path.size ≤ 900000) (A : Option Addr) (c : Nat) (l : List Pat) (w : World) (hl : PatsAt w A l) :
    Calls Try.prog 13 #[.slice A l.length c, .string path, .bool dir] w fun e w' => e = .returned (.bool (hitsP l path dir)) ∧ Below w.heap.size w w' := by
  have HC1 := Lib.hid (any_any path (by omega) A c l w hl)
  have HC2 : Hid (∀ w1, Below w.heap.size w w1 → Calls Try.prog 15 #[.slice A l.length c, .string (path ++ slash)] w1 fun e w' => e = .returned (.bool (anyP l (path ++ slash))) ∧ Below w1.heap.size w1 w') :=
    Lib.hid (fun w1 hb => any_any (path ++ slash) (by rw [ByteArray.size_append]; show path.size + 1 ≤ _; omega) A c l w1 (hl.below hb))
  have HR := Lib.hid (show hitsP l path dir = (anyP l path || (dir && anyP l (path ++ slash))) from rfl)
  generalize hitsP l path dir = R at *
  generalize anyP l (path ++ slash) = r2 at *
  rw [show slash = (⟨#[47]⟩ : ByteArray) from rfl] at HC2
  generalize anyP l path = r1 at *
  clear hl
  cases r1 <;> cases dir
  case true.false =>
    go_enter Try.func13, Try.ntmps13
    go_wp2_with (go_at_call 15; refine HC1.out.mono ?_; rintro e w1 ⟨rfl, hb⟩; have HB := Lib.hid hb; clear hb)
    go_ret
    exact ⟨by rw [HR.out]; rfl, HB.out⟩
  case true.true =>
    go_enter Try.func13, Try.ntmps13
    go_wp2_with (go_at_call 15; refine HC1.out.mono ?_; rintro e w1 ⟨rfl, hb⟩; have HB := Lib.hid hb; clear hb)
    go_ret
    exact ⟨by rw [HR.out]; rfl, HB.out⟩
  case false.false =>
    go_enter Try.func13, Try.ntmps13
    go_wp2_with (go_at_call 15; refine HC1.out.mono ?_; rintro e w1 ⟨rfl, hb⟩; have HB := Lib.hid hb; clear hb)
    go_ret
    exact ⟨by rw [HR.out]; rfl, HB.out⟩
  case false.true =>
    go_enter Try.func13, Try.ntmps13
    go_wp2_with fail
    refine HC1.out.mono ?_
    rintro e w1 ⟨rfl, hb⟩
    have HB := Lib.hid hb
    clear hb
    go_wp2_with fail
    refine (HC2.out _ HB.out).mono ?_
    rintro e w2 ⟨rfl, hb⟩
    have HB2 := Lib.hid (below_next HB.out hb)
    clear hb
    go_wp2
    go_ret
    exact ⟨by rw [HR.out]; rfl, HB2.out⟩
end Go.Proofs.Ytfogfkikkekmkaa.GlobAny
