/- denote's Odds and Override, as plain lists. -/
import Derived.Test.YtpjjooiamdfmfaaGreatDoorTreeLaw
set_option linter.unusedVariables false
set_option linter.unusedSimpArgs false
namespace Go.Proofs.YtpjjooiamdfmfaaGreatDoor.OverLaw
open Go.Proofs.YtpjjooiamdfmfaaGreatDoor.Stab Go.Proofs.YtpjjooiamdfmfaaGreatDoor.SortLaw Go.Proofs.YtpjjooiamdfmfaaGreatDoor.Item Go.Proofs.YtpjjooiamdfmfaaGreatDoor.TreeLaw Go.Proofs.YtpjjooiamdfmfaaGreatDoor.NameLaw Go.Proofs.YtpjjooiamdfmfaaGreatDoor.NameWalk Go.Proofs.YtpjjooiamdfmfaaGreatDoor.NameOrd Go.Proofs.YtpjjooiamdfmfaaGreatDoor.NameRef

/-! ### at odds -/
/-- Are two items at odds? x stands behind y. -/
def oddsQ (x y : It) : Bool := if x.1 = y.1 then true else if underT x.1 y.1 = true then y.2.1 != 1 else if underT y.1 x.1 = true then x.2.1 != 1 else false
def oddsGo : List It → List It → ByteArray × Bool
  | _, [] => (⟨#[]⟩, false)
  | s, x :: l => if s.any (oddsQ x) = true then (x.1, true) else oddsGo (s ++ [x]) l
def oddsP (t : List It) : ByteArray × Bool := oddsGo [] t
theorem odds_at {t : List It} {k : Nat} (h : k < t.length) : oddsGo (t.take k) (t.drop k) = if (t.take k).any (oddsQ t[k]) = true then (t[k].1, true) else oddsGo (t.take (k + 1)) (t.drop (k + 1)) := by
  rw [List.drop_eq_getElem_cons h, List.take_succ_eq_append_getElem h]
  rfl
theorem odds_end {t : List It} {k : Nat} (h : t.length ≤ k) : oddsGo (t.take k) (t.drop k) = (⟨#[]⟩, false) := by
  rw [List.drop_of_length_le h]
  rfl
theorem under_pre {a r : List UInt8} (h : underL a r = true) : r <+: a := by
  unfold underL at h
  rw [Bool.and_eq_true] at h
  exact List.isPrefixOf_iff_prefix.1 h.1
theorem under_both {a b : ByteArray} (h : underT a b = true) (k : underT b a = true) : a = b := by
  have h1 := under_pre h
  have h2 := under_pre k
  have e : a.data.toList = b.data.toList := (h2.eq_of_length_le h1.length_le)
  rw [← mk_data a, e, mk_data]
/-- The document's way to ask it. -/
theorem odds_ref (x y : It) : oddsQ x y = (decide (x.1 = y.1) || (underT x.1 y.1 && (y.2.1 != 1)) || (underT y.1 x.1 && (x.2.1 != 1))) := by
  unfold oddsQ
  by_cases h : x.1 = y.1
  · simp [h]
  · rw [if_neg h, decide_eq_false h]
    cases h1 : underT x.1 y.1 with
    | false => cases h2 : underT y.1 x.1 <;> simp
    | true =>
      cases h2 : underT y.1 x.1 with
      | false => simp
      | true => exact absurd (under_both h1 h2) h
/-! ### over -/
def inP (u : List It) (x : It) : Bool := u.any (fun y => decide (x.1 = y.1))
def restP (t u : List It) : List It := t.filter (fun x => !inP u x)
def overP (t u : List It) : List It := sortP (restP t u ++ u)
theorem in_iff {u : List It} {x : It} : inP u x = true ↔ ∃ y ∈ u, x.1 = y.1 := by
  unfold inP
  rw [List.any_eq_true]
  simp
theorem in_self {u : List It} {x : It} (h : x ∈ u) : inP u x = true := in_iff.2 ⟨x, h, rfl⟩
theorem in_find (u : List It) (x : It) : (findP u x.1).isSome = inP u x := by
  rw [Bool.eq_iff_iff, in_iff]
  unfold findP
  rw [List.find?_isSome]
  constructor
  · rintro ⟨y, hy, e⟩
    exact ⟨y, hy, (isAt_eq e).symm⟩
  · rintro ⟨y, hy, e⟩
    exact ⟨y, hy, decide_eq_true e.symm⟩
theorem sort_sim (t : List It) : Sim ltI t (sortP t) := (sort_stb t).1
theorem mem_sort {t : List It} {x : It} (h : x ∈ t) : x ∈ sortP t := (sort_sim t).mem swoI h
theorem over_mem {t u : List It} {x : It} : x ∈ overP t u ↔ (x ∈ t ∧ inP u x = false) ∨ x ∈ u := by
  have e : x ∈ overP t u ↔ x ∈ restP t u ++ u := ⟨fun h => sort_mem h, fun h => mem_sort h⟩
  rw [e, List.mem_append]
  unfold restP
  rw [List.mem_filter]
  simp
/-- What is over a tree: of the upper one, or of the lower one where the upper has nothing. -/
theorem over_from {t u : List It} (ht : Strict t) (hu : Strict u) {x : It} (h : x ∈ overP t u) : findP u x.1 = some x ∨ (findP u x.1 = none ∧ findP t x.1 = some x) := by
  rcases over_mem.1 h with ⟨h1, h2⟩ | h1
  · refine .inr ⟨?_, strict_find ht h1⟩
    rw [← in_find] at h2
    simpa using h2
  · exact .inl (strict_find hu h1)
theorem over_has {t u : List It} {x : It} (h : x ∈ t ++ u) : (findP (overP t u) x.1).isSome = true := by
  have hin : ∃ y ∈ overP t u, x.1 = y.1 := by
    rcases List.mem_append.1 h with h1 | h1
    · cases hu : inP u x with
      | false => exact ⟨x, over_mem.2 (.inl ⟨h1, hu⟩), rfl⟩
      | true =>
        obtain ⟨y, hy, e⟩ := in_iff.1 hu
        exact ⟨y, over_mem.2 (.inr hy), e⟩
    · exact ⟨x, over_mem.2 (.inr h1), rfl⟩
  rw [in_find]
  exact in_iff.2 hin
theorem sorted_of {t : List It} (h : Strict t) : Sorted ltI t := by
  refine List.Pairwise.imp (fun {x y} h => ?_) h
  unfold ltI
  have := orderT_neg x.1 y.1
  exact decide_eq_false (by omega)
theorem over_nil {t : List It} (h : Strict t) : overP t [] = t := by
  unfold overP restP
  have e : t.filter (fun x => !inP [] x) = t := List.filter_eq_self.2 (fun x _ => rfl)
  rw [e, List.append_nil]
  exact (sort_is (Stb.refl (sorted_of h))).symm
theorem sim_perm_ {α : Type} [DecidableEq α] {lt : α → α → Bool} (hw : SWO lt) {l m : List α} (h : Sim lt l m) : l.Perm m := List.perm_iff_count.2 (fun x => by
  have h1 := congrArg (List.count x) (h.2 x)
  rw [List.count_filter (eqv_self hw x), List.count_filter (eqv_self hw x)] at h1
  exact h1)
theorem sim_perm {l m : List It} (h : Sim ltI l m) : l.Perm m := @sim_perm_ It (fun _ _ => Classical.propDecidable _) ltI swoI l m h
/-- Laid over once more nothing is other. -/
theorem over_again (t u : List It) : overP (overP t u) u = overP t u := by
  have hs := sort_stb (restP t u ++ u)
  have ho : sortP (restP t u ++ u) = overP t u := rfl
  rw [ho] at hs
  have hnu : u.filter (fun x => !inP u x) = [] := List.filter_eq_nil_iff.2 (fun x hx => by simp [in_self hx])
  have hff : (restP t u).filter (fun x => !inP u x) = restP t u := List.filter_eq_self.2 (fun x hx => (List.mem_filter.1 hx).2)
  refine (sort_is (t := restP (overP t u) u ++ u) ⟨⟨?_, fun c => ?_⟩, hs.2⟩).symm
  · have hp : (restP (overP t u) u).length = (restP t u).length := by
      have := ((sim_perm hs.1).filter (fun x => !inP u x)).length_eq
      rw [List.filter_append, hff, hnu, List.append_nil] at this
      exact this.symm
    rw [List.length_append, hp, ← List.length_append]
    exact hs.1.1
  · rw [List.filter_append, ← hs.1.2 c, List.filter_append]
    congr 1
    unfold restP
    rw [List.filter_filter]
    have h1 : (overP t u).filter (fun a => eqv ltI c a && !inP u a) = ((overP t u).filter (eqv ltI c)).filter (fun a => !inP u a) := by
      rw [List.filter_filter]
      congr 1
      funext a
      exact Bool.and_comm _ _
    rw [h1, ← hs.1.2 c, List.filter_append, List.filter_append, List.filter_filter]
    have h2 : (u.filter (eqv ltI c)).filter (fun a => !inP u a) = [] := List.filter_eq_nil_iff.2 (fun x hx => by simp [in_self (List.mem_filter.1 hx).1])
    rw [h2, List.append_nil]
    unfold restP
    rw [List.filter_filter, List.filter_filter]
    congr 1
    funext a
    cases inP u a <;> cases eqv ltI c a <;> rfl
end Go.Proofs.YtpjjooiamdfmfaaGreatDoor.OverLaw
