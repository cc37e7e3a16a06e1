/- What Check lets through, over plain lists of bytes: a checked path and its parents. -/
import Derived.Test.YtfnjoncklgllcaaDoorNameRef
import Derived.Lib.ValidLaws
set_option linter.unusedVariables false
set_option linter.unusedSimpArgs false
namespace Go.Proofs.YtfnjoncklgllcaaDoor.NameKeepLaw
open Go.RowKit Go.Proofs.YtfnjoncklgllcaaDoor.NameLaw Go.Proofs.YtfnjoncklgllcaaDoor.NameCmp Go.Proofs.YtfnjoncklgllcaaDoor.NameWalk Go.Proofs.YtfnjoncklgllcaaDoor.NameRef

theorem anyB (chars : List UInt8) : ∀ l, Lib.containsAny l chars = l.any chars.contains
  | [] => rfl
  | b :: l => by
    have ih := anyB chars l
    have hg := Lib.indexAny_ge chars l
    unfold Lib.containsAny at *
    unfold Lib.indexAny
    rw [List.any_cons]
    cases h : chars.contains b
    · rw [if_neg (by simp), Bool.false_or, ← ih]
      by_cases h2 : Lib.indexAny l chars = -1
      · rw [if_pos (by rw [h2]; rfl), h2]
      · rw [if_neg (by rw [beq_iff_eq]; exact h2)]
        rw [Bool.eq_iff_iff, decide_eq_true_eq, decide_eq_true_eq]; omega
    · rfl
theorem bad_iff (s : ByteArray) : badBytes s = false ↔ ∀ c ∈ s.data.toList, c ≠ 0 ∧ c ≠ 92 := by
  unfold badBytes
  rw [anyB, List.any_eq_false]
  constructor
  · intro h c hc
    have := h c hc
    simpa using this
  · intro h c hc
    have := h c hc
    simp [this.1, this.2]
theorem decode_cut (a r : List UInt8) (c : UInt8) (ha : a ≠ []) (hc : c.toNat < 128) : Lib.decodeL (a ++ c :: r) = Lib.decodeL a := by
  rw [Lib.decodeL_N, Lib.decodeL_N]
  match a, ha with
  | [b0], _ =>
    simp only [List.cons_append, List.nil_append, List.getD_cons_zero, List.getD_cons_succ, List.length_cons, List.length_nil]
    unfold Lib.decodeN
    have : c.toNat / 64 ≠ 2 := by omega
    simp [this]
  | [b0, b1], _ =>
    simp only [List.cons_append, List.nil_append, List.getD_cons_zero, List.getD_cons_succ, List.length_cons, List.length_nil]
    unfold Lib.decodeN
    have : c.toNat / 64 ≠ 2 := by omega
    simp [this]
  | [b0, b1, b2], _ =>
    simp only [List.cons_append, List.nil_append, List.getD_cons_zero, List.getD_cons_succ, List.length_cons, List.length_nil]
    unfold Lib.decodeN
    have : c.toNat / 64 ≠ 2 := by omega
    simp [this]
  | b0 :: b1 :: b2 :: b3 :: t, _ =>
    simp only [List.cons_append, List.getD_cons_zero, List.getD_cons_succ, List.length_cons]
    unfold Lib.decodeN
    simp
theorem valid_cut (r : List UInt8) (c : UInt8) (hc : c.toNat < 128) (n : Nat) : ∀ a : List UInt8, a.length ≤ n → Lib.validD (a ++ c :: r) = (Lib.validD a && Lib.validD (c :: r)) := by
  induction n with
  | zero =>
    intro a h
    have : a = [] := List.eq_nil_of_length_eq_zero (by omega)
    subst this
    rw [Lib.validD_nil, Bool.true_and, List.nil_append]
  | succ n ih =>
    intro a h
    by_cases ha : a = []
    · subst ha
      rw [Lib.validD_nil, Bool.true_and, List.nil_append]
    · rw [Lib.validD_step _ (by simp), Lib.validD_step a ha, decode_cut a r c ha hc]
      by_cases h2 : (Lib.decodeL a).1 = 65533 ∧ (Lib.decodeL a).2 = 1
      · rw [if_pos h2, if_pos h2, Bool.false_and]
      · rw [if_neg h2, if_neg h2]
        have hle := Lib.decodeL_le a ha
        have hw := Lib.decodeL_width a
        have hl : 0 < a.length := List.length_pos_iff.2 ha
        rw [List.drop_append_of_le_length hle, ih _ (by rw [List.length_drop]; omega)]
/-! ### the last slash -/
theorem last_spec (l : List UInt8) : ∀ n, n ≤ l.length → match lastL l n with
    | none => ∀ c ∈ l.take n, c ≠ 47
    | some j => j < n ∧ l.take n = l.take j ++ 47 :: (l.take n).drop (j + 1) ∧ ∀ c ∈ (l.take n).drop (j + 1), c ≠ 47 := by
  intro n
  induction n with
  | zero => intro _; simp [lastL]
  | succ n ih =>
    intro h
    have hn : n < l.length := by omega
    have ht : l.take (n + 1) = l.take n ++ [l[n]] := by rw [List.take_add_one, List.getElem?_eq_getElem hn]; rfl
    unfold lastL
    by_cases h1 : l[n]? = some 47
    · rw [if_pos h1]
      rw [List.getElem?_eq_getElem hn, Option.some.injEq] at h1
      simp only
      have hd : (l.take (n + 1)).drop (n + 1) = [] := List.drop_of_length_le (by rw [List.length_take]; omega)
      rw [hd]
      refine ⟨by omega, by rw [ht, h1], by simp⟩
    · rw [if_neg h1]
      have hne : l[n] ≠ 47 := fun e => h1 (by rw [List.getElem?_eq_getElem hn, e])
      have ih := ih (by omega)
      cases hj : lastL l n with
      | none =>
        rw [hj] at ih
        simp only at ih ⊢
        rw [ht]
        intro c hc
        rcases List.mem_append.1 hc with hc | hc
        · exact ih c hc
        · rw [List.mem_singleton.1 hc]; exact hne
      | some j =>
        rw [hj] at ih
        simp only at ih ⊢
        obtain ⟨i1, i2, i3⟩ := ih
        have hlen : (l.take n).length = n := by rw [List.length_take]; omega
        refine ⟨by omega, ?_, ?_⟩
        · rw [ht, List.drop_append_of_le_length (by omega)]
          conv => lhs; rw [i2]
          rw [List.append_assoc]; rfl
        · rw [ht, List.drop_append_of_le_length (by omega)]
          intro c hc
          rcases List.mem_append.1 hc with hc | hc
          · exact i3 c hc
          · rw [List.mem_singleton.1 hc]; exact hne
theorem last_some (l : List UInt8) (j : Nat) (h : lastL l l.length = some j) : j < l.length ∧ l = l.take j ++ 47 :: l.drop (j + 1) ∧ splitL l = splitL (l.take j) ++ [l.drop (j + 1)] := by
  have := last_spec l l.length (Nat.le_refl _)
  rw [h, List.take_length] at this
  obtain ⟨h1, h2, h3⟩ := this
  refine ⟨h1, h2, ?_⟩
  conv => lhs; rw [h2]
  rw [splitL_append, splitL_no _ h3]
/-! ### a path that may be, and its parents -/
structure GoodP (p u : List UInt8) : Prop where
  pre : p = u ∨ ∃ r, p = u ++ 47 :: r
  safe : ∀ x ∈ splitL u, safeL x = true
  short : ∀ x ∈ splitL u, x.length ≤ 255
  deep : (splitL u).length ≤ 32
  plain : ∀ c ∈ u, c ≠ 0 ∧ c ≠ 92
  valid : Lib.validD u = true
  size : u.length ≤ 3000
theorem any_mk (p : List UInt8 → Bool) (s : ByteArray) : ((splitT s).any fun x => p x.data.toList) = (splitL s.data.toList).any p := by
  unfold splitT
  rw [List.any_map]; rfl
theorem badParts_iff (s : ByteArray) : badParts s = false ↔ ∀ x ∈ splitL (cutT s).data.toList, safeL x = true := by
  unfold badParts
  rw [any_mk (fun x => !safeL x), List.any_eq_false]
  simp
theorem longParts_iff (s : ByteArray) : longParts s = false ↔ ∀ x ∈ splitL (cutT s).data.toList, x.length ≤ 255 := by
  unfold longParts
  have : ((splitT (cutT s)).any fun x => decide (255 < x.size)) = ((splitT (cutT s)).any fun x => decide (255 < x.data.toList.length)) := by
    congr 1
  rw [this, any_mk (fun x => decide (255 < x.length)), List.any_eq_false]
  simp
theorem cut_same {s : ByteArray} (h : Lib.hasSuffix s.data.toList [47] = false) : cutT s = s := by
  unfold cutT Lib.trimSuffix
  rw [h]
  exact mk_data s
theorem cut_cases (s : ByteArray) : (isDir s = false ∧ cutT s = s) ∨ (isDir s = true ∧ s.data.toList = (cutT s).data.toList ++ [47]) := by
  cases h : isDir s
  · exact .inl ⟨rfl, cut_same h⟩
  · refine .inr ⟨rfl, ?_⟩
    unfold isDir at h
    unfold cutT Lib.trimSuffix
    rw [if_pos h]
    unfold Lib.hasSuffix at h
    rw [List.isSuffixOf_iff_suffix] at h
    obtain ⟨t, ht⟩ := h
    show s.data.toList = s.data.toList.take _ ++ [47]
    rw [← ht]
    simp
theorem good_start (s : ByteArray) (hs : s.size ≤ 3000) (h : checkE s = 0) : GoodP (cutT s).data.toList (cutT s).data.toList := by
  unfold checkE at h
  split at h
  · omega
  · split at h
    · omega
    · split at h
      · omega
      · split at h
        · omega
        · split at h
          · omega
          · split at h
            · omega
            · split at h
              · omega
              · rename_i h0 h1 h2 h3 h4 h5 h6
                have h2' : validT s = true := by simpa using h2
                have h3' : badBytes s = false := by simpa using h3
                have h4' : badParts s = false := by simpa using h4
                have h6' : longParts s = false := by simpa using h6
                rw [bad_iff] at h3'
                rw [badParts_iff] at h4'
                rw [longParts_iff] at h6'
                have hd : (splitL (cutT s).data.toList).length ≤ 32 := by
                  have : (splitT (cutT s)).length = (splitL (cutT s).data.toList).length := by unfold splitT; rw [List.length_map]
                  omega
                have hsz := cutT_size s
                refine ⟨.inl rfl, h4', h6', hd, ?_, ?_, by rw [len_data]; omega⟩
                · rcases cut_cases s with ⟨_, e⟩ | ⟨_, e⟩
                  · rw [e]; exact h3'
                  · intro c hc
                    exact h3' c (by rw [e]; exact List.mem_append_left _ hc)
                · rcases cut_cases s with ⟨_, e⟩ | ⟨_, e⟩
                  · rw [e]; exact h2'
                  · unfold validT at h2'
                    rw [e, show (cutT s).data.toList ++ [47] = (cutT s).data.toList ++ 47 :: [] from rfl, valid_cut [] 47 (by decide) _ _ (Nat.le_refl _)] at h2'
                    rw [Bool.and_eq_true] at h2'
                    exact h2'.1
theorem good_under {p u : List UInt8} (h : GoodP p u) : underL p u = true := by
  unfold underL
  rcases h.pre with rfl | ⟨r, rfl⟩
  · rw [List.drop_of_length_le (Nat.le_refl _)]; simp
  · rw [List.drop_left]
    have : u.isPrefixOf (u ++ 47 :: r) = true := by rw [List.isPrefixOf_iff_prefix]; exact List.prefix_append _ _
    rw [this]; simp
theorem good_parent {p : List UInt8} {U : ByteArray} (h : GoodP p U.data.toList) : parentT U = ⟨#[]⟩ ∨ (GoodP p (parentT U).data.toList ∧ (parentT U).size < U.size) := by
  unfold parentT
  have hl : lastL U.data.toList U.size = lastL U.data.toList U.data.toList.length := by rw [len_data]
  rw [hl]
  cases hj : lastL U.data.toList U.data.toList.length with
  | none => exact .inl rfl
  | some j =>
    right
    obtain ⟨h1, h2, h3⟩ := last_some _ j hj
    have e : (U.extract 0 j).data.toList = U.data.toList.take j := by
      rw [← Lib.toList_data, Lib.extract_toList]; simp
    have es : (U.extract 0 j).size < U.size := by
      rw [Lib.size_eq, e, List.length_take]; rw [len_data] at h1 ⊢; omega
    refine ⟨?_, es⟩
    simp only
    rw [e]
    refine ⟨?_, fun x hx => h.safe x (by rw [h3]; exact List.mem_append_left _ hx), fun x hx => h.short x (by rw [h3]; exact List.mem_append_left _ hx), ?_, fun c hc => h.plain c (List.mem_of_mem_take hc), ?_, ?_⟩
    · rcases h.pre with hp | ⟨r, hp⟩
      · right
        exact ⟨U.data.toList.drop (j + 1), by rw [hp, ← h2]⟩
      · right
        refine ⟨U.data.toList.drop (j + 1) ++ 47 :: r, ?_⟩
        rw [hp]
        conv => lhs; rw [h2]
        rw [List.append_assoc]; rfl
    · have := h.deep
      rw [h3, List.length_append] at this
      omega
    · have := h.valid
      rw [h2, valid_cut _ 47 (by decide) _ _ (Nat.le_refl _), Bool.and_eq_true] at this
      exact this.1
    · have := h.size
      rw [List.length_take]; omega
end Go.Proofs.YtfnjoncklgllcaaDoor.NameKeepLaw
