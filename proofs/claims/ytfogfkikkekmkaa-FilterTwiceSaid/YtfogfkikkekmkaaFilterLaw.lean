/- filter, plainly: what patterns are read as, which paths they mean; the laws FilterMore and FilterTwice. -/
import Derived.Test.YtfogfkikkekmkaaGlobMatch
set_option linter.unusedVariables false
namespace Go.Proofs.Ytfogfkikkekmkaa.FilterLaw
open Go.Proofs.Ytfogfkikkekmkaa.GlobLaw Go.Proofs.Ytfogfkikkekmkaa.GlobMatch Go.Proofs.Ytfogfkikkekmkaa.GlobRunes

abbrev Pat := List Atom
/-- A pattern, or why it is none. -/
def compS (s : ByteArray) : Pat × Int :=
  if 65535 < s.size then ([], 5) else match compP (runesL s.data.toList) with | some p => (p, 0) | none => ([], 22)
def compGo : List ByteArray → List Pat → List Pat × Int
  | [], acc => (acc, 0)
  | s :: t, acc => if (compS s).2 = 0 then compGo t (acc ++ [(compS s).1]) else ([], (compS s).2)
def makeP (i o : List ByteArray) : List Pat × List Pat × Int :=
  if 100 < i.length ∨ 100 < o.length then ([], [], 6)
  else if (compGo i []).2 = 0 then (if (compGo o []).2 = 0 then ((compGo i []).1, (compGo o []).1, 0) else ([], [], (compGo o []).2)) else ([], [], (compGo i []).2)
def anyP (l : List Pat) (s : ByteArray) : Bool := l.any fun p => matchP p (runesL s.data.toList)
def slash : ByteArray := ⟨#[47]⟩
def hitsP (l : List Pat) (path : ByteArray) (dir : Bool) : Bool := anyP l path || (dir && anyP l (path ++ slash))
def takesF (a b : List Pat) (path : ByteArray) (dir : Bool) : Bool := (decide (a.length = 0) || hitsP a path dir) && !hitsP b path dir
theorem compGo_app (m : ByteArray) : ∀ (l : List ByteArray) (acc : List Pat), compGo (l ++ [m]) acc = if (compGo l acc).2 = 0 then (if (compS m).2 = 0 then ((compGo l acc).1 ++ [(compS m).1], 0) else ([], (compS m).2)) else ([], (compGo l acc).2)
  | [], acc => by simp [compGo]
  | s :: t, acc => by
    show compGo (s :: (t ++ [m])) acc = _
    unfold compGo
    by_cases h : (compS s).2 = 0
    · rw [if_pos h, if_pos h]
      exact compGo_app m t _
    · rw [if_neg h, if_neg h]
      simp only
      rw [if_neg h]
theorem compGo_len : ∀ (l : List ByteArray) (acc : List Pat), (compGo l acc).2 = 0 → (compGo l acc).1.length = acc.length + l.length
  | [], acc, _ => by simp [compGo]
  | s :: t, acc, h => by
    unfold compGo at h ⊢
    by_cases h1 : (compS s).2 = 0
    · rw [if_pos h1] at h ⊢
      rw [compGo_len t _ h]
      simp; omega
    · rw [if_neg h1] at h
      exact absurd h h1
theorem makeP_ok {i o : List ByteArray} (hi : i.length ≤ 100) (ho : o.length ≤ 100) : (makeP i o).2.2 = 0 ↔ (compGo i []).2 = 0 ∧ (compGo o []).2 = 0 := by
  unfold makeP
  rw [if_neg (by omega)]
  by_cases h1 : (compGo i []).2 = 0
  · rw [if_pos h1]
    by_cases h2 : (compGo o []).2 = 0
    · rw [if_pos h2]; simp [h1, h2]
    · rw [if_neg h2]; simp [h1, h2]
  · rw [if_neg h1]; simp [h1]
theorem makeP_eq {i o : List ByteArray} (hi : i.length ≤ 100) (ho : o.length ≤ 100) (h1 : (compGo i []).2 = 0) (h2 : (compGo o []).2 = 0) : makeP i o = ((compGo i []).1, (compGo o []).1, 0) := by
  unfold makeP
  rw [if_neg (by omega), if_pos h1, if_pos h2]
theorem make_nil : makeP [] [] = ([], [], 0) := by
  rw [makeP_eq (by simp) (by simp) rfl rfl]; rfl
theorem takes_nil (path : ByteArray) (dir : Bool) : takesF [] [] path dir = true := by
  simp [takesF, hitsP, anyP]
theorem anyP_app (l : List Pat) (p : Pat) (s : ByteArray) : anyP (l ++ [p]) s = (anyP l s || matchP p (runesL s.data.toList)) := by
  simp [anyP]
theorem hits_more (l : List Pat) (p : Pat) (path : ByteArray) (dir : Bool) (h : hitsP l path dir = true) : hitsP (l ++ [p]) path dir = true := by
  unfold hitsP at h ⊢
  rw [anyP_app, anyP_app]
  revert h
  cases anyP l path <;> cases dir <;> cases anyP l (path ++ slash) <;> simp
/-- What the law says of what is made. -/
theorem more_law (i o : List ByteArray) (m path : ByteArray) (dir : Bool) (hi : i.length ≤ 99) (ho : o.length ≤ 99) (h : (makeP i o).2.2 = 0) :
    (makeP i (o ++ [m])).2.2 = (makeP (i ++ [m]) o).2.2 ∧ ((makeP i (o ++ [m])).2.2 = 0 →
      (takesF (makeP i (o ++ [m])).1 (makeP i (o ++ [m])).2.1 path dir = true → takesF (makeP i o).1 (makeP i o).2.1 path dir = true) ∧
      (i.length = 0 ∨ takesF (makeP i o).1 (makeP i o).2.1 path dir = false ∨ takesF (makeP (i ++ [m]) o).1 (makeP (i ++ [m]) o).2.1 path dir = true)) := by
  obtain ⟨h1, h2⟩ := (makeP_ok (by omega) (by omega)).1 h
  have li : (i ++ [m]).length ≤ 100 := by rw [List.length_append, List.length_singleton]; omega
  have lo : (o ++ [m]).length ≤ 100 := by rw [List.length_append, List.length_singleton]; omega
  by_cases hm : (compS m).2 = 0
  · have ci : compGo (i ++ [m]) [] = ((compGo i []).1 ++ [(compS m).1], 0) := by rw [compGo_app, if_pos h1, if_pos hm]
    have co : compGo (o ++ [m]) [] = ((compGo o []).1 ++ [(compS m).1], 0) := by rw [compGo_app, if_pos h2, if_pos hm]
    rw [makeP_eq (by omega) lo h1 (by rw [co]), makeP_eq li (by omega) (by rw [ci]) h2, makeP_eq (by omega) (by omega) h1 h2, ci, co]
    refine ⟨rfl, fun _ => ⟨fun ht => ?_, ?_⟩⟩
    · unfold takesF at ht ⊢
      simp only at ht ⊢
      rw [Bool.and_eq_true] at ht ⊢
      refine ⟨ht.1, ?_⟩
      cases hh : hitsP (compGo o []).1 path dir with
      | false => rfl
      | true =>
        have := hits_more _ (compS m).1 path dir hh
        rw [this] at ht
        cases ht.2
    · by_cases h0 : i.length = 0
      · exact .inl h0
      · refine .inr ?_
        cases ht : takesF (compGo i []).1 (compGo o []).1 path dir with
        | false => exact .inl rfl
        | true =>
          refine .inr ?_
          unfold takesF at ht ⊢
          rw [Bool.and_eq_true] at ht ⊢
          refine ⟨?_, ht.2⟩
          have hl : ¬ (compGo i []).1.length = 0 := by rw [compGo_len i [] h1]; simpa using h0
          rw [decide_eq_false hl, Bool.false_or] at ht
          rw [hits_more _ _ _ _ ht.1, Bool.or_true]
  · have ci : (makeP (i ++ [m]) o).2.2 = (compS m).2 := by
      unfold makeP
      rw [if_neg (by omega), compGo_app, if_pos h1, if_neg hm, if_neg hm]
    have co : (makeP i (o ++ [m])).2.2 = (compS m).2 := by
      unfold makeP
      rw [if_neg (by omega), if_pos h1, compGo_app, if_pos h2, if_neg hm, if_neg hm]
    exact ⟨by rw [ci, co], fun h0 => absurd (co.symm.trans h0) hm⟩
end Go.Proofs.Ytfogfkikkekmkaa.FilterLaw
