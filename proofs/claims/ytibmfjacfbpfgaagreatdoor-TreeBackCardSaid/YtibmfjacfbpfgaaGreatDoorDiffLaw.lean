/- tree's Differ, Fill and Put, as plain lists: that both answers are one. -/
import Derived.Test.YtibmfjacfbpfgaaGreatDoorFillA
import Derived.Test.YtibmfjacfbpfgaaGreatDoorRSort
set_option linter.unusedVariables false
set_option linter.unusedSimpArgs false
namespace Go.Proofs.YtibmfjacfbpfgaaGreatDoor.DiffLaw
open Stab SortLaw YtibmfjacfbpfgaaGreatDoor.Item TreeLaw NameLaw NameWalk NameOrd NameRef SortIns NodeRes TreeNodes FillLaw
/-! ### Put -/
theorem find_put_ne (t : List It) (x : It) {q : ByteArray} (h : q ≠ x.1) : findP (putP t x) q = findP t q := by
 have h1 : findP (woP t x.1) q = findP t q := by
  unfold findP woP
  rw [List.find?_filter]
  congr 1
  funext y
  by_cases e : y.1 = q
  ·
   have : isAt x.1 y = false := decide_eq_false (fun e2 => h (by rw [← e, e2]))
   rw [this]; simp
  ·
   have : isAt q y = false := decide_eq_false e
   rw [this]; simp
 have h2 : isAt q x = false := decide_eq_false (fun e => h e.symm)
 unfold putP
 rw [← h1]
 generalize (woP t x.1).findIdx (behind x.1) = n
 generalize woP t x.1 = o
 unfold findP
 rw [List.find?_append, List.find?_cons, h2]
 conv => rhs; rw [← List.take_append_drop n o, List.find?_append]
theorem node_put (t : List It) (p : ByteArray) (d : Nd) (q : ByteArray) : nodeP (putP t (p, d)) q = if q = p then some d else nodeP t q := by
 unfold nodeP
 by_cases h : q = p
 ·
  subst h
  rw [if_pos rfl, find_put t (q, d)]; rfl
 ·
  rw [if_neg h, find_put_ne t (p, d) h]
/-! ### Fill, by what the list itself holds -/
theorem node_some (s : List It) (p : ByteArray) : (findP s p).isSome = (nodeP s p).isSome := by
 unfold nodeP; cases findP s p <;> rfl
/-! ### Differ -/
def difB (a b : List It) (p : ByteArray) : Bool := decide (nodeP a p ≠ nodeP b p)
def StrictB (l : List ByteArray) : Prop := l.Pairwise (fun x y => orderT x y < 0)
def dStep (a b : List It) (o : List ByteArray) (p : ByteArray) : List ByteArray := if difB a b p = true ∧ o.getLast? ≠ some p then o ++ [p] else o
def difP (a b : List It) : List ByteArray := ((sortP (a ++ b)).map (·.1)).foldl (dStep a b) []
theorem strict_ext : ∀ {l m : List ByteArray}, StrictB l → StrictB m → (∀ p, p ∈ l ↔ p ∈ m) → l = m
 | [], [], _, _, _ => rfl
 | [], y :: m, _, _, h => absurd ((h y).2 (by simp)) (by simp)
 | x :: l, [], _, _, h => absurd ((h x).1 (by simp)) (by simp)
 | x :: l, y :: m, hl, hm, h => by
  obtain ⟨hl1, hl2⟩ := List.pairwise_cons.1 hl
  obtain ⟨hm1, hm2⟩ := List.pairwise_cons.1 hm
  have hxy : x = y := by
   rcases List.mem_cons.1 ((h x).1 (by simp)) with e | e
   ·
    exact e
   ·
    rcases List.mem_cons.1 ((h y).2 (by simp)) with e2 | e2
    ·
     exact e2.symm
    ·
     have := hl1 y e2
     have := hm1 x e
     have := orderT_neg x y
     omega
  subst hxy
  rw [strict_ext hl2 hm2 (fun p => ?_)]
  constructor
  ·
   intro hp
   rcases List.mem_cons.1 ((h p).1 (by simp [hp])) with e | e
   ·
    have := hl1 p hp
    rw [e, orderT_self] at this
    omega
   ·
    exact e
  ·
   intro hp
   rcases List.mem_cons.1 ((h p).2 (by simp [hp])) with e | e
   ·
    have := hm1 p hp
    rw [e, orderT_self] at this
    omega
   ·
    exact e
theorem dif_fold (a b : List It) : ∀ (s o : List ByteArray), s.Pairwise (fun x y => orderT x y ≤ 0) → StrictB o → (∀ x ∈ o, ∀ y ∈ s, orderT x y ≤ 0) →
  StrictB (s.foldl (dStep a b) o) ∧ ∀ p, p ∈ s.foldl (dStep a b) o ↔ p ∈ o ∨ (p ∈ s ∧ difB a b p = true)
 | [], o, _, ho, _ => ⟨ho, fun p => by simp⟩
 | x :: s, o, hs, ho, hos => by
  obtain ⟨h1, h2⟩ := List.pairwise_cons.1 hs
  rw [List.foldl_cons]
  by_cases hc : difB a b x = true ∧ o.getLast? ≠ some x
  ·
   have e : dStep a b o x = o ++ [x] := if_pos hc
   rw [e]
   have hlt : ∀ y ∈ o, orderT y x < 0 := by
    cases hl : o.getLast? with
    | none => rw [List.getLast?_eq_none_iff.1 hl]; intro y hy; cases hy
    | some z =>
     obtain ⟨o', rfl⟩ := List.getLast?_eq_some_iff.1 hl
     have hz : orderT z x < 0 := by
      have := hos z (by simp) x (by simp)
      rcases Int.lt_or_eq_of_le this with h | h
      ·
       exact h
      ·
       exact absurd (by rw [hl, orderT_zero h]) hc.2
     intro y hy
     rcases List.mem_append.1 hy with e | e
     ·
      exact orderT_lt ((List.pairwise_append.1 ho).2.2 y e z (by simp)) hz
     ·
      have : y = z := by simpa using e
      rw [this]; exact hz
   have ho2 : StrictB (o ++ [x]) := List.pairwise_append.2 ⟨ho, by simp, fun y hy z hz => by
    have : z = x := by simpa using hz
    rw [this]; exact hlt y hy⟩
   obtain ⟨r1, r2⟩ := dif_fold a b s (o ++ [x]) h2 ho2 (fun y hy z hz => by
    rcases List.mem_append.1 hy with e | e
    ·
     exact hos y e z (by simp [hz])
    ·
     have : y = x := by simpa using e
     rw [this]; exact h1 z hz)
   refine ⟨r1, fun p => ?_⟩
   rw [r2]
   simp only [List.mem_append, List.mem_cons, List.not_mem_nil, or_false]
   constructor
   ·
    rintro ((h | h) | h)
    ·
     exact .inl h
    ·
     exact .inr ⟨.inl h, by rw [h]; exact hc.1⟩
    ·
     exact .inr ⟨.inr h.1, h.2⟩
   ·
    rintro (h | ⟨h | h, h3⟩)
    ·
     exact .inl (.inl h)
    ·
     exact .inl (.inr h)
    ·
     exact .inr ⟨h, h3⟩
  ·
   have e : dStep a b o x = o := if_neg hc
   rw [e]
   obtain ⟨r1, r2⟩ := dif_fold a b s o h2 ho (fun y hy z hz => hos y hy z (by simp [hz]))
   refine ⟨r1, fun p => ?_⟩
   rw [r2]
   simp only [List.mem_cons]
   constructor
   ·
    rintro (h | h)
    ·
     exact .inl h
    ·
     exact .inr ⟨.inr h.1, h.2⟩
   ·
    rintro (h | ⟨h | h, h3⟩)
    ·
     exact .inl h
    ·
     left
     rw [h] at h3
     have hl : o.getLast? = some x := by
      cases hl : o.getLast? with
      | none => exact absurd ⟨h3, by rw [hl]; simp⟩ hc
      | some z =>
       by_cases hz : z = x
       ·
        rw [hz]
       ·
        exact absurd ⟨h3, by rw [hl]; simpa using hz⟩ hc
     rw [h]
     exact List.mem_of_getLast? hl
    ·
     exact .inr ⟨h, h3⟩
theorem sort_le (t : List It) : ((sortP t).map (·.1)).Pairwise (fun x y => orderT x y ≤ 0) := by
 have h := (sort_stb t).2
 rw [List.pairwise_map]
 refine List.Pairwise.imp ?_ (show (sortP t).Pairwise (fun x y => ltI y x = false) from h)
 intro x y hxy
 have := of_decide_eq_false hxy
 have := orderT_neg x.1 y.1
 omega
theorem sort_mem_iff {t : List It} {x : It} : x ∈ sortP t ↔ x ∈ t := ⟨sort_mem, fun h => (sort_stb t).1.mem swoI h⟩
theorem node_isSome {t : List It} {p : ByteArray} : (nodeP t p).isSome = true ↔ ∃ x ∈ t, x.1 = p := by
 rw [← node_some]
 unfold findP
 rw [List.find?_isSome]
 constructor
 ·
  rintro ⟨x, hx, e⟩; exact ⟨x, hx, isAt_eq e⟩
 ·
  rintro ⟨x, hx, e⟩; exact ⟨x, hx, decide_eq_true e⟩
theorem dif_is (a b : List It) : StrictB (difP a b) ∧ ∀ p, p ∈ difP a b ↔ difB a b p = true := by
 obtain ⟨h1, h2⟩ := dif_fold a b ((sortP (a ++ b)).map (·.1)) [] (sort_le _) List.Pairwise.nil (by simp)
 refine ⟨h1, fun p => ?_⟩
 show p ∈ ((sortP (a ++ b)).map (·.1)).foldl (dStep a b) [] ↔ _
 rw [h2]
 constructor
 ·
  rintro (h | h)
  ·
   cases h
  ·
   exact h.2
 ·
  intro h
  refine .inr ⟨?_, h⟩
  have hne : nodeP a p ≠ nodeP b p := of_decide_eq_true h
  have : (nodeP a p).isSome = true ∨ (nodeP b p).isSome = true := by
   cases ha : nodeP a p with
   | some x => exact .inl rfl
   | none =>
    cases hb : nodeP b p with
    | some x => exact .inr rfl
    | none => exact absurd (by rw [ha, hb]) hne
  rcases this with e | e
  ·
   obtain ⟨x, hx, e⟩ := node_isSome.1 e
   exact List.mem_map.2 ⟨x, sort_mem_iff.2 (by simp [hx]), e⟩
  ·
   obtain ⟨x, hx, e⟩ := node_isSome.1 e
   exact List.mem_map.2 ⟨x, sort_mem_iff.2 (by simp [hx]), e⟩
/-- Which paths of a differ (p1), which stand in b alone (p2). -/
def p1 (a b : List It) (p : ByteArray) : Bool := difB a b p
def p2 (a : List It) (p : ByteArray) : Bool := !(nodeP a p).isSome
/-- What was collected, in whatever order the keys came, and then sorted: is Differ's answer. -/
theorem collect {a b : List It} {d1 d2 s : List ByteArray} (n1 : d1.Nodup) (n2 : d2.Nodup) (h1 : ∀ p, p ∈ d1 ↔ (nodeP a p).isSome = true) (h2 : ∀ p, p ∈ d2 ↔ (nodeP b p).isSome = true)
  (hp : s.Perm (d1.filter (p1 a b) ++ d2.filter (p2 a))) (hs : s.Pairwise (fun x y => orderT x y ≤ 0)) : s = difP a b := by
 have hn : (d1.filter (p1 a b) ++ d2.filter (p2 a)).Nodup := by
  rw [List.nodup_append]
  refine ⟨n1.filter _, n2.filter _, fun x hx y hy e => ?_⟩
  have hx1 := (h1 x).1 (List.mem_filter.1 hx).1
  have hy1 := (List.mem_filter.1 hy).2
  subst e
  unfold p2 at hy1
  rw [hx1] at hy1
  cases hy1
 have hns : s.Nodup := hp.nodup_iff.2 hn
 refine strict_ext (hs.imp₂ (fun x y h hne => ?_) hns) (dif_is a b).1 (fun p => ?_)
 ·
  rcases Int.lt_or_eq_of_le h with e | e
  ·
   exact e
  ·
   exact absurd (orderT_zero e) hne
 ·
  rw [hp.mem_iff, (dif_is a b).2, List.mem_append, List.mem_filter, List.mem_filter, h1, h2]
  unfold p1 p2 difB
  cases ha : nodeP a p with
  | some x => simp
  | none =>
   cases hb : nodeP b p with
   | some x => simp
   | none => simp
end Go.Proofs.YtibmfjacfbpfgaaGreatDoor.DiffLaw
