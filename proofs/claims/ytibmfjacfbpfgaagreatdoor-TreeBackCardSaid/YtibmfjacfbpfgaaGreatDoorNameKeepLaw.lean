/- What Check lets through, over plain lists of bytes: a checked path and its parents. -/
import Derived.Test.YtibmfjacfbpfgaaGreatDoorNameRef
import Derived.Lib.ValidLaws
set_option linter.unusedVariables false
set_option linter.unusedSimpArgs false
namespace Go.Proofs.YtibmfjacfbpfgaaGreatDoor.NameKeepLaw
open Go.RowKit NameLaw NameCmp NameWalk NameRef
theorem anyB (chars : List UInt8) : ∀ l, Lib.containsAny l chars = l.any chars.contains
 | [] => rfl
 | b :: l => by
  have ih := anyB chars l
  have hg := Lib.indexAny_ge chars l
  unfold Lib.containsAny at *
  unfold Lib.indexAny
  rw [List.any_cons]
  cases h : chars.contains b
  ·
   rw [if_neg (by simp), Bool.false_or, ← ih]
   by_cases h2 : Lib.indexAny l chars = -1
   ·
    rw [if_pos (by rw [h2]; rfl), h2]
   ·
    rw [if_neg (by rw [beq_iff_eq]; exact h2)]
    rw [Bool.eq_iff_iff, decide_eq_true_eq, decide_eq_true_eq]; omega
  ·
   rfl
/-! ### the last slash -/
theorem last_spec (l : List UInt8) : ∀ n, n ≤ l.length → match lastL l n with
  | none => ∀ c ∈ l.take n, c ≠ 47
  | some j => j < n ∧ l.take n = l.take j ++ 47 :: (l.take n).drop (j + 1) ∧ ∀ c ∈ (l.take n).drop (j + 1), c ≠ 47 := by
 intro n
 induction n with
 | zero => intro _; simp [lastL]
 | succ n ih =>
  intro h
  have hn : n < l.length := by omega
  have ht : l.take (n + 1) = l.take n ++ [l[n]] := by rw [List.take_add_one, List.getElem?_eq_getElem hn]; rfl
  unfold lastL
  by_cases h1 : l[n]? = some 47
  ·
   rw [if_pos h1]
   rw [List.getElem?_eq_getElem hn, Option.some.injEq] at h1
   simp only
   have hd : (l.take (n + 1)).drop (n + 1) = [] := List.drop_of_length_le (by rw [List.length_take]; omega)
   rw [hd]
   refine ⟨by omega, by rw [ht, h1], by simp⟩
  ·
   rw [if_neg h1]
   have hne : l[n] ≠ 47 := fun e => h1 (by rw [List.getElem?_eq_getElem hn, e])
   have ih := ih (by omega)
   cases hj : lastL l n with
   | none =>
    rw [hj] at ih
    simp only at ih ⊢
    rw [ht]
    intro c hc
    rcases List.mem_append.1 hc with hc | hc
    ·
     exact ih c hc
    ·
     rw [List.mem_singleton.1 hc]; exact hne
   | some j =>
    rw [hj] at ih
    simp only at ih ⊢
    obtain ⟨i1, i2, i3⟩ := ih
    have hlen : (l.take n).length = n := by rw [List.length_take]; omega
    refine ⟨by omega, ?_, ?_⟩
    ·
     rw [ht, List.drop_append_of_le_length (by omega)]
     conv => lhs; rw [i2]
     rw [List.append_assoc]; rfl
    ·
     rw [ht, List.drop_append_of_le_length (by omega)]
     intro c hc
     rcases List.mem_append.1 hc with hc | hc
     ·
      exact i3 c hc
     ·
      rw [List.mem_singleton.1 hc]; exact hne
theorem last_none (l : List UInt8) (h : lastL l l.length = none) : splitL l = [l] := by
 have := last_spec l l.length (Nat.le_refl _)
 rw [h, List.take_length] at this
 exact splitL_no l this
theorem last_some (l : List UInt8) (j : Nat) (h : lastL l l.length = some j) : j < l.length ∧ l = l.take j ++ 47 :: l.drop (j + 1) ∧ splitL l = splitL (l.take j) ++ [l.drop (j + 1)] := by
 have := last_spec l l.length (Nat.le_refl _)
 rw [h, List.take_length] at this
 obtain ⟨h1, h2, h3⟩ := this
 refine ⟨h1, h2, ?_⟩
 conv => lhs; rw [h2]
 rw [splitL_append, splitL_no _ h3]
/-! ### a path that may be, and its parents -/
theorem any_mk (p : List UInt8 → Bool) (s : ByteArray) : ((splitT s).any fun x => p x.data.toList) = (splitL s.data.toList).any p := by
 unfold splitT
 rw [List.any_map]; rfl
theorem badParts_iff (s : ByteArray) : badParts s = false ↔ ∀ x ∈ splitL (cutT s).data.toList, safeL x = true := by
 unfold badParts
 rw [any_mk (fun x => !safeL x), List.any_eq_false]
 simp
theorem cut_same {s : ByteArray} (h : Lib.hasSuffix s.data.toList [47] = false) : cutT s = s := by
 unfold cutT Lib.trimSuffix
 rw [h]
 exact mk_data s
theorem cut_cases (s : ByteArray) : (isDir s = false ∧ cutT s = s) ∨ (isDir s = true ∧ s.data.toList = (cutT s).data.toList ++ [47]) := by
 cases h : isDir s
 ·
  exact .inl ⟨rfl, cut_same h⟩
 ·
  refine .inr ⟨rfl, ?_⟩
  unfold isDir at h
  unfold cutT Lib.trimSuffix
  rw [if_pos h]
  unfold Lib.hasSuffix at h
  rw [List.isSuffixOf_iff_suffix] at h
  obtain ⟨t, ht⟩ := h
  show s.data.toList = s.data.toList.take _ ++ [47]
  rw [← ht]
  simp
end Go.Proofs.YtibmfjacfbpfgaaGreatDoor.NameKeepLaw
