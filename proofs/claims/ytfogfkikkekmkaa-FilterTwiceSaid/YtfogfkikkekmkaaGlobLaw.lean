/- glob, plainly: what a pattern is read as, and what it matches, step for step as the code goes. -/
import Derived.Test.YtfogfkikkekmkaaGlobScan
import Derived.Test.YtfogfkikkekmkaaGlobRunes
set_option linter.unusedVariables false
namespace Go.Proofs.Ytfogfkikkekmkaa.GlobLaw
open Go.Proofs.Ytfogfkikkekmkaa.GlobScan Go.Proofs.Ytfogfkikkekmkaa.GlobRunes

abbrev St := List Int × Bool
/-- kind, rune, not, ranges -/
abbrev Atom := Int × Int × Bool × List (Int × Int)
def dash (s : St) : Bool := seesL s.1 45 && (match s.1 with | _ :: x :: _ => x != 93 | _ => false)
/-- One range: from, to, and what is left. -/
def oneR (s : St) : (Int × Int) × St :=
  let low := plainR s.1
  let s1 := plainS s
  if dash s1 then
    let s2 := nextS s1
    let high := plainR s2.1
    let s3 := plainS s2
    ((low, high), (s3.1, s3.2 || decide (high < low)))
  else ((low, low), (s1.1, s1.2 || decide (low < low)))
def setLoop : Nat → St → Bool → List (Int × Int) → Option (St × List (Int × Int))
  | 0, _, _, _ => none
  | k + 1, s, first, acc => if (first || !seesL s.1 93) && !s.2 then setLoop k (oneR s).2 false (acc ++ [(oneR s).1]) else some (s, acc)
theorem next_len (s : St) : (nextS s).1.length ≤ s.1.length ∧ (nextS s).2 = (s.2 || s.1.isEmpty) := by
  unfold nextS; simp
theorem plain_len (s : St) : (plainS s).1.length ≤ s.1.length - 1 ∧ (s.1 = [] → (plainS s).2 = true) := by
  unfold plainS nextS
  split
  · refine ⟨by simp, fun h => by rw [h]; simp⟩
  · exact ⟨by simp, fun h => by rw [h]; simp⟩
theorem plain_bad (s : St) (h : s.2 = true) : (plainS s).2 = true := by
  unfold plainS nextS
  split <;> simp [h]
theorem one_len (s : St) : (oneR s).2.1.length ≤ s.1.length - 1 ∧ (s.1 = [] → (oneR s).2.2 = true) := by
  have h1 := plain_len s
  unfold oneR
  simp only
  split
  · have h2 := next_len (plainS s)
    have h3 := plain_len (nextS (plainS s))
    refine ⟨by simp only; omega, fun e => ?_⟩
    simp only
    have h4 : (nextS (plainS s)).2 = true := by rw [h2.2, h1.2 e]; rfl
    rw [plain_bad _ h4]; rfl
  · refine ⟨by simp only; omega, fun e => ?_⟩
    simp only
    rw [h1.2 e]; rfl
theorem setLoop_some : ∀ (k : Nat) (s : St) (first : Bool) (acc : List (Int × Int)), s.1.length + (if s.2 then 0 else 1) < k → ∃ r, setLoop k s first acc = some r
  | 0, s, first, acc, h => by omega
  | k + 1, s, first, acc, h => by
    unfold setLoop
    by_cases h1 : ((first || !seesL s.1 93) && !s.2) = true
    · rw [if_pos h1]
      have hb : s.2 = false := by
        rw [Bool.and_eq_true] at h1
        simpa using h1.2
      rw [hb] at h
      have hl := one_len s
      refine setLoop_some k _ _ _ ?_
      by_cases he : s.1 = []
      · rw [hl.2 he]
        have : s.1.length = 0 := by rw [he]; rfl
        simp at h ⊢; omega
      · have : 0 < s.1.length := List.length_pos_iff.2 he
        split <;> simp at h <;> omega
    · rw [if_neg h1]
      exact ⟨_, rfl⟩
def setP (s : St) : Atom × St :=
  let neg := seesL s.1 33 || seesL s.1 94
  let s0 := if neg then nextS s else s
  match setLoop (s0.1.length + 2) s0 true [] with
  | some (s', rs) => ((4, 0, neg, rs), nextS s')
  | none => ((4, 0, neg, []), s0)
/-- One atom. -/
def atomP (s : St) : Atom × St :=
  let r := headD s.1
  let s1 := nextS s
  if r = 42 then ((3, 0, false, []), s1)
  else if r = 63 then ((2, 0, false, []), s1)
  else if r = 91 then setP s1
  else if r = 92 then ((1, headD s1.1, false, []), nextS s1)
  else ((1, r, false, []), s1)
def compLoop : Nat → St → List Atom → Option (St × List Atom)
  | 0, _, _ => none
  | k + 1, s, acc => if s.1.length > 0 ∧ s.2 = false then compLoop k (atomP s).2 (acc ++ [(atomP s).1]) else some (s, acc)
theorem setLoop_len : ∀ (k : Nat) (s : St) (first : Bool) (acc : List (Int × Int)) (r : St × List (Int × Int)), setLoop k s first acc = some r → r.1.1.length ≤ s.1.length
  | 0, s, first, acc, r, h => by simp [setLoop] at h
  | k + 1, s, first, acc, r, h => by
    unfold setLoop at h
    by_cases h1 : ((first || !seesL s.1 93) && !s.2) = true
    · rw [if_pos h1] at h
      have := setLoop_len k _ _ _ _ h
      have := (one_len s).1
      omega
    · rw [if_neg h1] at h
      rw [← Option.some.inj h]
      exact Nat.le_refl _
theorem set_len (s : St) : (setP s).2.1.length ≤ s.1.length := by
  unfold setP
  simp only
  generalize hs0 : (if (seesL s.1 33 || seesL s.1 94) = true then nextS s else s) = s0
  have h0 : s0.1.length ≤ s.1.length := by
    rw [← hs0]
    split
    · exact (next_len s).1
    · exact Nat.le_refl _
  cases h : setLoop (s0.1.length + 2) s0 true [] with
  | none => exact h0
  | some r =>
    obtain ⟨s', rs⟩ := r
    have h1 := setLoop_len _ _ _ _ _ h
    have h2 := (next_len s').1
    simp only at h1 ⊢
    omega
theorem atom_len (s : St) (h : 0 < s.1.length) : (atomP s).2.1.length < s.1.length := by
  have h1 : (nextS s).1.length = s.1.length - 1 := by unfold nextS; simp
  unfold atomP
  simp only
  split
  · simp only; omega
  · split
    · simp only; omega
    · split
      · have := set_len (nextS s); omega
      · split
        · have := (next_len (nextS s)).1
          simp only; omega
        · simp only; omega
theorem compLoop_some : ∀ (k : Nat) (s : St) (acc : List Atom), s.1.length < k → ∃ r, compLoop k s acc = some r
  | 0, s, acc, h => by omega
  | k + 1, s, acc, h => by
    unfold compLoop
    by_cases h1 : s.1.length > 0 ∧ s.2 = false
    · rw [if_pos h1]
      have := atom_len s h1.1
      exact compLoop_some k _ _ (by omega)
    · rw [if_neg h1]
      exact ⟨_, rfl⟩
/-- A pattern's atoms; none: it is no pattern. -/
def compP (l : List Int) : Option (List Atom) :=
  match compLoop (l.length + 1) (l, false) [] with
  | some (s, acc) => if s.2 then none else some acc
  | none => none
/-- Is a rune an atom's? -/
def takesP (a : Atom) (r : Int) : Bool :=
  if a.1 = 1 then a.2.1 == r else if a.1 = 2 then true else if a.1 = 4 then (a.2.2.2.any fun x => decide (x.1 ≤ r) && decide (r ≤ x.2)) != a.2.2.1 else false
end Go.Proofs.Ytfogfkikkekmkaa.GlobLaw
