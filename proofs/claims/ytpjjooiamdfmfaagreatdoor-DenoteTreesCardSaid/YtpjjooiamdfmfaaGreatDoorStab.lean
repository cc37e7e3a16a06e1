/- plain lists: what it is to be sorted and stable; two such are one. -/
import Derived.Test.YtpjjooiamdfmfaaGreatDoorItem
set_option linter.unusedVariables false
set_option linter.unusedSimpArgs false
namespace Go.Proofs.YtpjjooiamdfmfaaGreatDoor.Stab

/-- A strict weak order. -/
structure SWO {α : Type} (lt : α → α → Bool) : Prop where
  irr : ∀ x, lt x x = false
  asym : ∀ x y, lt x y = true → lt y x = false
  trans : ∀ x y z, lt x y = true → lt y z = true → lt x z = true
  ntrans : ∀ x y z, lt x y = false → lt y z = false → lt x z = false
section
variable {α : Type} {lt : α → α → Bool}
def eqv (lt : α → α → Bool) (c x : α) : Bool := !lt c x && !lt x c
def Sorted (lt : α → α → Bool) (l : List α) : Prop := l.Pairwise (fun x y => lt y x = false)
def Sim (lt : α → α → Bool) (l m : List α) : Prop := l.length = m.length ∧ ∀ c, l.filter (eqv lt c) = m.filter (eqv lt c)
theorem Sim.refl (l : List α) : Sim lt l l := ⟨rfl, fun _ => rfl⟩
theorem Sim.symm {l m : List α} (h : Sim lt l m) : Sim lt m l := ⟨h.1.symm, fun c => (h.2 c).symm⟩
theorem Sim.trans {l m n : List α} (h : Sim lt l m) (k : Sim lt m n) : Sim lt l n := ⟨h.1.trans k.1, fun c => (h.2 c).trans (k.2 c)⟩
theorem Sim.app {a b c d : List α} (h : Sim lt a b) (k : Sim lt c d) : Sim lt (a ++ c) (b ++ d) :=
  ⟨by rw [List.length_append, List.length_append, h.1, k.1], fun x => by rw [List.filter_append, List.filter_append, h.2 x, k.2 x]⟩
theorem eqv_self (hw : SWO lt) (x : α) : eqv lt x x = true := by simp [eqv, hw.irr]
theorem Sim.mem (hw : SWO lt) {l m : List α} (h : Sim lt l m) {x : α} (hx : x ∈ l) : x ∈ m := by
  have h1 : x ∈ l.filter (eqv lt x) := List.mem_filter.2 ⟨hx, eqv_self hw x⟩
  rw [h.2 x] at h1
  exact (List.mem_filter.1 h1).1
theorem eqv_ntl (hw : SWO lt) {c x y : α} (h1 : eqv lt c x = true) (h2 : eqv lt c y = true) : eqv lt x y = true := by
  simp only [eqv, Bool.and_eq_true, Bool.not_eq_true'] at *
  exact ⟨hw.ntrans _ _ _ h1.2 h2.1, hw.ntrans _ _ _ h2.2 h1.1⟩
theorem Sim.swap (hw : SWO lt) {u v : List α} (h : ∀ x ∈ u, ∀ y ∈ v, lt x y = true ∨ lt y x = true) : Sim lt (u ++ v) (v ++ u) := by
  refine ⟨by rw [List.length_append, List.length_append, Nat.add_comm], fun c => ?_⟩
  rw [List.filter_append, List.filter_append]
  by_cases hu : u.filter (eqv lt c) = []
  · rw [hu, List.nil_append, List.append_nil]
  · have hv : v.filter (eqv lt c) = [] := by
      obtain ⟨x, hx⟩ := List.exists_mem_of_ne_nil _ hu
      obtain ⟨hx1, hx2⟩ := List.mem_filter.1 hx
      refine List.filter_eq_nil_iff.2 (fun y hy hc => ?_)
      have h3 := eqv_ntl hw hx2 hc
      simp only [eqv, Bool.and_eq_true, Bool.not_eq_true'] at h3
      rcases h x hx1 y hy with h4 | h4
      · rw [h3.1] at h4; cases h4
      · rw [h3.2] at h4; cases h4
    rw [hv, List.nil_append, List.append_nil]
theorem uniq (hw : SWO lt) : ∀ l m : List α, Sorted lt l → Sorted lt m → Sim lt l m → l = m
  | [], [], _, _, _ => rfl
  | [], y :: m, _, _, h => by cases h.1
  | x :: l, [], _, _, h => by cases h.1
  | x :: l, y :: m, hl, hm, h => by
    have hy : y ∈ x :: l := h.symm.mem hw List.mem_cons_self
    have hx : x ∈ y :: m := h.mem hw List.mem_cons_self
    have hl' := List.pairwise_cons.1 hl
    have hm' := List.pairwise_cons.1 hm
    have h1 : lt y x = false := by
      rcases List.mem_cons.1 hy with e | e
      · rw [e]; exact hw.irr _
      · exact hl'.1 y e
    have h2 : lt x y = false := by
      rcases List.mem_cons.1 hx with e | e
      · rw [e]; exact hw.irr _
      · exact hm'.1 x e
    have hf := h.2 x
    rw [List.filter_cons_of_pos (eqv_self hw x), List.filter_cons_of_pos (by simp [eqv, h1, h2])] at hf
    have e : x = y := (List.cons.inj hf).1
    subst e
    have ht : l = m := uniq hw l m hl'.2 hm'.2 ⟨by have := h.1; simp at this; exact this, fun c => by
      have := h.2 c
      by_cases hc : eqv lt c x = true
      · rw [List.filter_cons_of_pos hc, List.filter_cons_of_pos hc] at this
        exact (List.cons.inj this).2
      · rw [List.filter_cons_of_neg hc, List.filter_cons_of_neg hc] at this
        exact this⟩
    rw [ht]
/-- Sorted, of the same elements, those that are equal in their order. -/
def Stb (lt : α → α → Bool) (l m : List α) : Prop := Sim lt l m ∧ Sorted lt m
theorem Stb.one (hw : SWO lt) {l m n : List α} (h : Stb lt l m) (k : Stb lt l n) : m = n := uniq hw _ _ h.2 k.2 (h.1.symm.trans k.1)
theorem sorted_app {u v : List α} (h1 : Sorted lt u) (h2 : Sorted lt v) (h : ∀ x ∈ u, ∀ y ∈ v, lt y x = false) : Sorted lt (u ++ v) := List.pairwise_append.2 ⟨h1, h2, h⟩
theorem sorted_last {u : List α} (hw : SWO lt) (h : Sorted lt u) {x z : α} (hx : x ∈ u) (hz : u.getLast? = some z) : lt z x = false := by
  obtain ⟨u0, rfl⟩ := List.getLast?_eq_some_iff.1 hz
  rcases List.mem_append.1 hx with e | e
  · exact (List.pairwise_append.1 h).2.2 x e z List.mem_cons_self
  · rw [List.mem_singleton.1 e]; exact hw.irr _
theorem sorted_head {u : List α} (hw : SWO lt) (h : Sorted lt u) {x z : α} (hx : x ∈ u) (hz : u.head? = some z) : lt x z = false := by
  cases u with
  | nil => cases hx
  | cons y u =>
    injection hz with hz
    subst hz
    rcases List.mem_cons.1 hx with e | e
    · rw [e]; exact hw.irr _
    · exact (List.pairwise_cons.1 h).1 x e
/-- Two sorted rows, cut crosswise: what is left of both cuts stands ahead. -/
theorem cross (hw : SWO lt) {u1 u2 v1 v2 s1 s2 : List α} (hu : Sorted lt (u1 ++ u2)) (hv : Sorted lt (v1 ++ v2))
    (hA : ∀ x y, u1.getLast? = some x → v2.head? = some y → lt y x = false) (hB : ∀ y x, v1.getLast? = some y → u2.head? = some x → lt y x = true)
    (h1 : Stb lt (u1 ++ v1) s1) (h2 : Stb lt (u2 ++ v2) s2) : Stb lt (u1 ++ u2 ++ (v1 ++ v2)) (s1 ++ s2) := by
  obtain ⟨hu1, hu2, hu3⟩ := List.pairwise_append.1 hu
  obtain ⟨hv1, hv2, hv3⟩ := List.pairwise_append.1 hv
  have hA' : ∀ x ∈ u1, ∀ y ∈ v2, lt y x = false := by
    intro x hx y hy
    cases hl : u1.getLast? with
    | none => rw [List.getLast?_eq_none_iff.1 hl] at hx; cases hx
    | some z =>
      cases hh : v2.head? with
      | none => rw [List.head?_eq_none_iff.1 hh] at hy; cases hy
      | some w => exact hw.ntrans _ _ _ (hw.ntrans _ _ _ (sorted_head hw hv2 hy hh) (hA z w hl hh)) (sorted_last hw hu1 hx hl)
  have hB' : ∀ y ∈ v1, ∀ x ∈ u2, lt y x = true := by
    intro y hy x hx
    cases hl : v1.getLast? with
    | none => rw [List.getLast?_eq_none_iff.1 hl] at hy; cases hy
    | some z =>
      cases hh : u2.head? with
      | none => rw [List.head?_eq_none_iff.1 hh] at hx; cases hx
      | some w =>
        have h1 := hB z w hl hh
        have h2 := sorted_last hw hv1 hy hl
        have h3 := sorted_head hw hu2 hx hh
        cases h4 : lt y x with
        | true => rfl
        | false =>
          have := hw.ntrans _ _ _ (hw.ntrans _ _ _ h2 h4) h3
          rw [h1] at this
          cases this
  refine ⟨?_, sorted_app h1.2 h2.2 (fun x hx y hy => ?_)⟩
  · have e1 : u1 ++ u2 ++ (v1 ++ v2) = u1 ++ ((u2 ++ v1) ++ v2) := by simp
    have e2 : (u1 ++ v1) ++ (u2 ++ v2) = u1 ++ ((v1 ++ u2) ++ v2) := by simp
    rw [e1]
    refine Sim.trans ?_ (h1.1.app h2.1)
    rw [e2]
    exact (Sim.refl _).app ((Sim.swap hw (fun x hx y hy => .inr (hB' y hy x hx))).app (Sim.refl _))
  · have hx' := h1.1.symm.mem hw hx
    have hy' := h2.1.symm.mem hw hy
    rcases List.mem_append.1 hx' with a | a <;> rcases List.mem_append.1 hy' with b | b
    · exact hu3 x a y b
    · exact hA' x a y b
    · exact hw.asym _ _ (hB' x a y b)
    · exact hv3 x a y b
theorem sorted_put (hw : SWO lt) {p r : List α} {x : α} (h : Sorted lt (p ++ r)) (h1 : ∀ y, p.getLast? = some y → lt x y = false) (h2 : ∀ y ∈ r, lt x y = true) : Sorted lt (p ++ x :: r) := by
  obtain ⟨a, b, c⟩ := List.pairwise_append.1 h
  refine sorted_app a (List.pairwise_cons.2 ⟨fun y hy => hw.asym _ _ (h2 y hy), b⟩) (fun z hz y hy => ?_)
  rcases List.mem_cons.1 hy with e | e
  · rw [e]
    cases hl : p.getLast? with
    | none => rw [List.getLast?_eq_none_iff.1 hl] at hz; cases hz
    | some w => exact hw.ntrans _ _ _ (h1 w hl) (sorted_last hw a hz hl)
  · exact c z hz y e
end
end Go.Proofs.YtpjjooiamdfmfaaGreatDoor.Stab
