/- tree's Differ, Fill and Put, as plain lists: that both answers are one. -/
import Derived.Test.YtpjjooiamdfmfaaGreatDoorFillA
import Derived.Test.YtpjjooiamdfmfaaGreatDoorRSort
set_option linter.unusedVariables false
set_option linter.unusedSimpArgs false
namespace Go.Proofs.YtpjjooiamdfmfaaGreatDoor.DiffLaw
open Go.Proofs.YtpjjooiamdfmfaaGreatDoor.Stab Go.Proofs.YtpjjooiamdfmfaaGreatDoor.SortLaw Go.Proofs.YtpjjooiamdfmfaaGreatDoor.Item Go.Proofs.YtpjjooiamdfmfaaGreatDoor.TreeLaw Go.Proofs.YtpjjooiamdfmfaaGreatDoor.NameLaw Go.Proofs.YtpjjooiamdfmfaaGreatDoor.NameWalk Go.Proofs.YtpjjooiamdfmfaaGreatDoor.NameOrd Go.Proofs.YtpjjooiamdfmfaaGreatDoor.NameRef Go.Proofs.YtpjjooiamdfmfaaGreatDoor.SortIns Go.Proofs.YtpjjooiamdfmfaaGreatDoor.NodeRes Go.Proofs.YtpjjooiamdfmfaaGreatDoor.TreeNodes Go.Proofs.YtpjjooiamdfmfaaGreatDoor.FillLaw

/-! ### Put -/
theorem ins_put (t : List It) (x : It) : insR x (woP t x.1) = putP t x := by
  have e : (fun y => !ltI x y) = (fun y => !behind x.1 y) := by
    funext y
    unfold ltI behind
    have := orderT_neg x.1 y.1
    have h : (orderT x.1 y.1 < 0) ↔ (0 < orderT y.1 x.1) := by omega
    simp only [h]
  unfold insR putP
  rw [e, List.takeWhile_eq_take_findIdx_not, List.dropWhile_eq_drop_findIdx_not]
  simp only [Bool.not_not]
theorem find_put_ne (t : List It) (x : It) {q : ByteArray} (h : q ≠ x.1) : findP (putP t x) q = findP t q := by
  have h1 : findP (woP t x.1) q = findP t q := by
    unfold findP woP
    rw [List.find?_filter]
    congr 1
    funext y
    by_cases e : y.1 = q
    · have : isAt x.1 y = false := decide_eq_false (fun e2 => h (by rw [← e, e2]))
      rw [this]; simp
    · have : isAt q y = false := decide_eq_false e
      rw [this]; simp
  have h2 : isAt q x = false := decide_eq_false (fun e => h e.symm)
  unfold putP
  rw [← h1]
  generalize (woP t x.1).findIdx (behind x.1) = n
  generalize woP t x.1 = o
  unfold findP
  rw [List.find?_append, List.find?_cons, h2]
  conv => rhs; rw [← List.take_append_drop n o, List.find?_append]
theorem node_put (t : List It) (p : ByteArray) (d : Nd) (q : ByteArray) : nodeP (putP t (p, d)) q = if q = p then some d else nodeP t q := by
  unfold nodeP
  by_cases h : q = p
  · subst h
    rw [if_pos rfl, find_put t (q, d)]; rfl
  · rw [if_neg h, find_put_ne t (p, d) h]
/-! ### Fill, by what the list itself holds -/
def fillUpR (s : List It) (d : Nd) : Nat → ByteArray → List It → Option (List It)
  | 0, _, o => some o
  | n + 1, p, o => if p.data.toList = [] then some o else
    match nodeP o p with
    | some x => if x.1 ≠ 1 ∧ (findP s p).isSome = true then none else fillUpR s d n (parentT p) o
    | none => fillUpR s d n (parentT p) (putP o (p, d))
def fillAllR (s : List It) (d : Nd) : List It → List It → Option (List It)
  | [], o => some o
  | x :: l, o => (fillUpR s d x.1.size (parentT x.1) o).bind (fillAllR s d l)
/-- The list as it stands, and what has been added. -/
def Inv (s : List It) (d : Nd) (st : St) : Prop := ∀ q, nodeP st.2 q = (nodeP s q).or (if (st.1 q).getD false = true then some d else none)
theorem inv_start (s : List It) (d : Nd) : Inv s d (fun _ => none, s) := fun q => by simp
theorem node_some (s : List It) (p : ByteArray) : (findP s p).isSome = (nodeP s p).isSome := by
  unfold nodeP; cases findP s p <;> rfl
theorem up_eq (s : List It) (d : Nd) : ∀ (n : Nat) (p : ByteArray) (st : St), Inv s d st → fillUpR s d n p st.2 = (fillUp s d n p st).map (·.2) ∧ ∀ st', fillUp s d n p st = some st' → Inv s d st'
  | 0, p, st, h => ⟨rfl, fun st' e => by have : st = st' := by simpa [fillUp] using e
                                         rw [← this]; exact h⟩
  | n + 1, p, st, h => by
    unfold fillUpR fillUp
    by_cases hp : p.data.toList = []
    · rw [if_pos hp, if_pos hp]
      exact ⟨rfl, fun st' e => by injection e with e; rw [← e]; exact h⟩
    · rw [if_neg hp, if_neg hp]
      have hq := h p
      rw [node_some]
      cases hs : nodeP s p with
      | some x =>
        rw [hs] at hq
        have hq : nodeP st.2 p = some x := hq
        rw [hq]
        simp only
        by_cases h1 : x.1 = 1
        · rw [if_pos h1, if_neg (by simp [h1])]
          exact up_eq s d n (parentT p) st h
        · rw [if_neg h1, if_pos ⟨h1, rfl⟩]
          exact ⟨rfl, fun st' e => by cases e⟩
      | none =>
        rw [hs] at hq
        have hq : nodeP st.2 p = if (st.1 p).getD false = true then some d else none := by rw [hq]; rfl
        simp only
        by_cases ha : (st.1 p).getD false = true
        · rw [if_pos ha] at hq
          have e : addS d p st = st := by unfold addS; rw [if_pos ha]
          rw [hq, e]
          simp only
          rw [if_neg (by simp)]
          exact up_eq s d n (parentT p) st h
        · rw [if_neg ha] at hq
          rw [hq]
          simp only
          have e : addS d p st = (fun q => if q = p then some true else st.1 q, putP st.2 (p, d)) := by unfold addS; rw [if_neg ha]
          have hi : Inv s d (addS d p st) := fun q => by
            rw [e]
            show nodeP (putP st.2 (p, d)) q = _
            rw [node_put]
            by_cases hqp : q = p
            · subst hqp
              rw [if_pos rfl, hs]
              simp
            · rw [if_neg hqp, h q]
              simp [hqp]
          have := up_eq s d n (parentT p) (addS d p st) hi
          rw [e] at this ⊢
          exact this
theorem all_eq (s : List It) (d : Nd) : ∀ (l : List It) (st : St), Inv s d st → fillAllR s d l st.2 = (fillAll s d l st).map (·.2)
  | [], st, h => rfl
  | x :: l, st, h => by
    unfold fillAllR fillAll
    have hu := up_eq s d x.1.size (parentT x.1) st h
    rw [hu.1]
    cases hf : fillUp s d x.1.size (parentT x.1) st with
    | none => rfl
    | some st' => exact all_eq s d l st' (hu.2 st' hf)
def fillR (l : List It) (d : Nd) : List It × Bool := match fillAllR (sortP l) d (sortP l) (sortP l) with | some o => (o, true) | none => (sortP l, false)
theorem fill_same (l : List It) (d : Nd) : fillR l d = fillP l d := by
  unfold fillR fillP
  rw [all_eq (sortP l) d (sortP l) (fun _ => none, sortP l) (inv_start _ _)]
  cases fillAll (sortP l) d (sortP l) (fun _ => none, sortP l) <;> rfl
/-! ### Differ -/
def difB (a b : List It) (p : ByteArray) : Bool := decide (nodeP a p ≠ nodeP b p)
def StrictB (l : List ByteArray) : Prop := l.Pairwise (fun x y => orderT x y < 0)
def dStep (a b : List It) (o : List ByteArray) (p : ByteArray) : List ByteArray := if difB a b p = true ∧ o.getLast? ≠ some p then o ++ [p] else o
def difP (a b : List It) : List ByteArray := ((sortP (a ++ b)).map (·.1)).foldl (dStep a b) []
theorem strict_ext : ∀ {l m : List ByteArray}, StrictB l → StrictB m → (∀ p, p ∈ l ↔ p ∈ m) → l = m
  | [], [], _, _, _ => rfl
  | [], y :: m, _, _, h => absurd ((h y).2 (by simp)) (by simp)
  | x :: l, [], _, _, h => absurd ((h x).1 (by simp)) (by simp)
  | x :: l, y :: m, hl, hm, h => by
    obtain ⟨hl1, hl2⟩ := List.pairwise_cons.1 hl
    obtain ⟨hm1, hm2⟩ := List.pairwise_cons.1 hm
    have hxy : x = y := by
      rcases List.mem_cons.1 ((h x).1 (by simp)) with e | e
      · exact e
      · rcases List.mem_cons.1 ((h y).2 (by simp)) with e2 | e2
        · exact e2.symm
        · have := hl1 y e2
          have := hm1 x e
          have := orderT_neg x y
          omega
    subst hxy
    rw [strict_ext hl2 hm2 (fun p => ?_)]
    constructor
    · intro hp
      rcases List.mem_cons.1 ((h p).1 (by simp [hp])) with e | e
      · have := hl1 p hp
        rw [e, orderT_self] at this
        omega
      · exact e
    · intro hp
      rcases List.mem_cons.1 ((h p).2 (by simp [hp])) with e | e
      · have := hm1 p hp
        rw [e, orderT_self] at this
        omega
      · exact e
theorem dif_fold (a b : List It) : ∀ (s o : List ByteArray), s.Pairwise (fun x y => orderT x y ≤ 0) → StrictB o → (∀ x ∈ o, ∀ y ∈ s, orderT x y ≤ 0) →
    StrictB (s.foldl (dStep a b) o) ∧ ∀ p, p ∈ s.foldl (dStep a b) o ↔ p ∈ o ∨ (p ∈ s ∧ difB a b p = true)
  | [], o, _, ho, _ => ⟨ho, fun p => by simp⟩
  | x :: s, o, hs, ho, hos => by
    obtain ⟨h1, h2⟩ := List.pairwise_cons.1 hs
    rw [List.foldl_cons]
    by_cases hc : difB a b x = true ∧ o.getLast? ≠ some x
    · have e : dStep a b o x = o ++ [x] := if_pos hc
      rw [e]
      have hlt : ∀ y ∈ o, orderT y x < 0 := by
        cases hl : o.getLast? with
        | none => rw [List.getLast?_eq_none_iff.1 hl]; intro y hy; cases hy
        | some z =>
          obtain ⟨o', rfl⟩ := List.getLast?_eq_some_iff.1 hl
          have hz : orderT z x < 0 := by
            have := hos z (by simp) x (by simp)
            rcases Int.lt_or_eq_of_le this with h | h
            · exact h
            · exact absurd (by rw [hl, orderT_zero h]) hc.2
          intro y hy
          rcases List.mem_append.1 hy with e | e
          · exact orderT_lt ((List.pairwise_append.1 ho).2.2 y e z (by simp)) hz
          · have : y = z := by simpa using e
            rw [this]; exact hz
      have ho2 : StrictB (o ++ [x]) := List.pairwise_append.2 ⟨ho, by simp, fun y hy z hz => by
        have : z = x := by simpa using hz
        rw [this]; exact hlt y hy⟩
      obtain ⟨r1, r2⟩ := dif_fold a b s (o ++ [x]) h2 ho2 (fun y hy z hz => by
        rcases List.mem_append.1 hy with e | e
        · exact hos y e z (by simp [hz])
        · have : y = x := by simpa using e
          rw [this]; exact h1 z hz)
      refine ⟨r1, fun p => ?_⟩
      rw [r2]
      simp only [List.mem_append, List.mem_cons, List.not_mem_nil, or_false]
      constructor
      · rintro ((h | h) | h)
        · exact .inl h
        · exact .inr ⟨.inl h, by rw [h]; exact hc.1⟩
        · exact .inr ⟨.inr h.1, h.2⟩
      · rintro (h | ⟨h | h, h3⟩)
        · exact .inl (.inl h)
        · exact .inl (.inr h)
        · exact .inr ⟨h, h3⟩
    · have e : dStep a b o x = o := if_neg hc
      rw [e]
      obtain ⟨r1, r2⟩ := dif_fold a b s o h2 ho (fun y hy z hz => hos y hy z (by simp [hz]))
      refine ⟨r1, fun p => ?_⟩
      rw [r2]
      simp only [List.mem_cons]
      constructor
      · rintro (h | h)
        · exact .inl h
        · exact .inr ⟨.inr h.1, h.2⟩
      · rintro (h | ⟨h | h, h3⟩)
        · exact .inl h
        · left
          rw [h] at h3
          have hl : o.getLast? = some x := by
            cases hl : o.getLast? with
            | none => exact absurd ⟨h3, by rw [hl]; simp⟩ hc
            | some z =>
              by_cases hz : z = x
              · rw [hz]
              · exact absurd ⟨h3, by rw [hl]; simpa using hz⟩ hc
          rw [h]
          exact List.mem_of_getLast? hl
        · exact .inr ⟨h, h3⟩
theorem sort_le (t : List It) : ((sortP t).map (·.1)).Pairwise (fun x y => orderT x y ≤ 0) := by
  have h := (sort_stb t).2
  rw [List.pairwise_map]
  refine List.Pairwise.imp ?_ (show (sortP t).Pairwise (fun x y => ltI y x = false) from h)
  intro x y hxy
  have := of_decide_eq_false hxy
  have := orderT_neg x.1 y.1
  omega
theorem sort_mem_iff {t : List It} {x : It} : x ∈ sortP t ↔ x ∈ t := ⟨sort_mem, fun h => (sort_stb t).1.mem swoI h⟩
theorem node_isSome {t : List It} {p : ByteArray} : (nodeP t p).isSome = true ↔ ∃ x ∈ t, x.1 = p := by
  rw [← node_some]
  unfold findP
  rw [List.find?_isSome]
  constructor
  · rintro ⟨x, hx, e⟩; exact ⟨x, hx, isAt_eq e⟩
  · rintro ⟨x, hx, e⟩; exact ⟨x, hx, decide_eq_true e⟩
theorem dif_is (a b : List It) : StrictB (difP a b) ∧ ∀ p, p ∈ difP a b ↔ difB a b p = true := by
  obtain ⟨h1, h2⟩ := dif_fold a b ((sortP (a ++ b)).map (·.1)) [] (sort_le _) List.Pairwise.nil (by simp)
  refine ⟨h1, fun p => ?_⟩
  show p ∈ ((sortP (a ++ b)).map (·.1)).foldl (dStep a b) [] ↔ _
  rw [h2]
  constructor
  · rintro (h | h)
    · cases h
    · exact h.2
  · intro h
    refine .inr ⟨?_, h⟩
    have hne : nodeP a p ≠ nodeP b p := of_decide_eq_true h
    have : (nodeP a p).isSome = true ∨ (nodeP b p).isSome = true := by
      cases ha : nodeP a p with
      | some x => exact .inl rfl
      | none =>
        cases hb : nodeP b p with
        | some x => exact .inr rfl
        | none => exact absurd (by rw [ha, hb]) hne
    rcases this with e | e
    · obtain ⟨x, hx, e⟩ := node_isSome.1 e
      exact List.mem_map.2 ⟨x, sort_mem_iff.2 (by simp [hx]), e⟩
    · obtain ⟨x, hx, e⟩ := node_isSome.1 e
      exact List.mem_map.2 ⟨x, sort_mem_iff.2 (by simp [hx]), e⟩
/-- Which paths of a differ (p1), which stand in b alone (p2). -/
def p1 (a b : List It) (p : ByteArray) : Bool := difB a b p
def p2 (a : List It) (p : ByteArray) : Bool := !(nodeP a p).isSome
/-- What was collected, in whatever order the keys came, and then sorted: is Differ's answer. -/
theorem collect {a b : List It} {d1 d2 s : List ByteArray} (n1 : d1.Nodup) (n2 : d2.Nodup) (h1 : ∀ p, p ∈ d1 ↔ (nodeP a p).isSome = true) (h2 : ∀ p, p ∈ d2 ↔ (nodeP b p).isSome = true)
    (hp : s.Perm (d1.filter (p1 a b) ++ d2.filter (p2 a))) (hs : s.Pairwise (fun x y => orderT x y ≤ 0)) : s = difP a b := by
  have hn : (d1.filter (p1 a b) ++ d2.filter (p2 a)).Nodup := by
    rw [List.nodup_append]
    refine ⟨n1.filter _, n2.filter _, fun x hx y hy e => ?_⟩
    have hx1 := (h1 x).1 (List.mem_filter.1 hx).1
    have hy1 := (List.mem_filter.1 hy).2
    subst e
    unfold p2 at hy1
    rw [hx1] at hy1
    cases hy1
  have hns : s.Nodup := hp.nodup_iff.2 hn
  refine strict_ext (hs.imp₂ (fun x y h hne => ?_) hns) (dif_is a b).1 (fun p => ?_)
  · rcases Int.lt_or_eq_of_le h with e | e
    · exact e
    · exact absurd (orderT_zero e) hne
  · rw [hp.mem_iff, (dif_is a b).2, List.mem_append, List.mem_filter, List.mem_filter, h1, h2]
    unfold p1 p2 difB
    cases ha : nodeP a p with
    | some x => simp
    | none =>
      cases hb : nodeP b p with
      | some x => simp
      | none => simp
end Go.Proofs.YtpjjooiamdfmfaaGreatDoor.DiffLaw
