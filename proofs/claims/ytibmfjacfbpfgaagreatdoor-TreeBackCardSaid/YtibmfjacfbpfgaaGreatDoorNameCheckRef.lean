/- The document's Check: it is the code's. -/
import Derived.Test.YtibmfjacfbpfgaaGreatDoorNameOne
import Derived.Test.YtibmfjacfbpfgaaGreatDoorNameKeepLaw
import Derived.Test.YtibmfjacfbpfgaaGreatDoorPN
set_option linter.unusedVariables false
set_option linter.unusedSimpArgs false
namespace Go.Proofs.YtibmfjacfbpfgaaGreatDoor.NameCheckRef
open Go.RowKit YtibmfjacfbpfgaaGreatDoorW.PrintWords YtibmfjacfbpfgaaGreatDoorW.PrintLast NameLaw NameCmp NameWalk NameRef NameKeepLaw NameOne
abbrev E0 : ByteArray := ⟨#[]⟩
theorem safe_not (x : ByteArray) : safeL x.data.toList = false ↔ (x.toList = [] ∨ x.toList = [46] ∨ x.toList = [46, 46]) := by
 rw [Lib.toList_data]
 unfold safeL
 generalize x.data.toList = l
 by_cases h1 : l = []
 ·
  simp [h1]
 ·
  by_cases h2 : l = [46]
  ·
   simp [h2]
  ·
   by_cases h3 : l = [46, 46]
   ·
    simp [h3]
   ·
    simp [h1, h2, h3]
theorem l2_f (p : ByteArray) (d : Bool) (l : List ByteArray) (hl : l.length ≤ 100000) (n : Nat) : ∀ (j k : Nat), l.length - j ≤ n → j ≤ l.length → n < k →
  PNm.portmanteauref10_Check.l2 k p d l l (l.length : Int) (j : Int) = some (if (l.drop j).any (fun x => decide (255 < x.size) || decide (32 < l.length)) then (E0, false, 5) else (p, d, 0)) := by
 induction n with
 | zero =>
  intro j k h hj hk
  obtain ⟨k, rfl⟩ : ∃ m, k = m + 1 := ⟨k - 1, by omega⟩
  simp only [PNm.portmanteauref10_Check.l2]
  rw [if_neg (by omega), List.drop_of_length_le (by omega)]; rfl
 | succ n ih =>
  intro j k h hj hk
  obtain ⟨k, rfl⟩ : ∃ m, k = m + 1 := ⟨k - 1, by omega⟩
  simp only [PNm.portmanteauref10_Check.l2]
  by_cases hlt : j < l.length
  ·
   rw [if_pos (by omega), if_pos (by omega), if_pos (by omega), rd_at l j hlt, List.drop_eq_getElem_cons hlt, List.any_cons]
   by_cases h1 : 255 < l[j].size
   ·
    rw [if_pos (by omega), decide_eq_true h1]; rfl
   ·
    rw [if_neg (by omega), decide_eq_false h1, Bool.false_or]
    by_cases h2 : 32 < l.length
    ·
     rw [if_pos (by omega), decide_eq_true h2]; rfl
    ·
     rw [if_neg (by omega), decide_eq_false h2, Bool.false_or, show wrap64 ((j : Int) + 1) = ((j + 1 : Nat) : Int) by unfold wrap64; omega, ih (j + 1) k (by omega) (by omega) (by omega), decide_eq_false h2]
  ·
   rw [if_neg (by omega), List.drop_of_length_le (by omega)]; rfl
theorem l1_f (p : ByteArray) (d : Bool) (l : List ByteArray) (hl : l.length ≤ 100000) (n : Nat) : ∀ (j k : Nat), l.length - j ≤ n → j ≤ l.length → n + l.length + 2 < k →
  PNm.portmanteauref10_Check.l1 k p d l l (l.length : Int) (j : Int) = some (if (l.drop j).any (fun x => !safeL x.data.toList) then (E0, false, 21) else if l.any (fun x => decide (255 < x.size) || decide (32 < l.length)) then (E0, false, 5) else (p, d, 0)) := by
 have hend : ∀ k, l.length + 1 < k → PNm.portmanteauref10_Check.l2 k p d l l (l.length : Int) 0 = some (if l.any (fun x => decide (255 < x.size) || decide (32 < l.length)) then (E0, false, 5) else (p, d, 0)) := by
  intro k hk
  have := l2_f p d l hl l.length 0 k (by omega) (by omega) (by omega)
  rw [List.drop_zero] at this
  exact this
 induction n with
 | zero =>
  intro j k h hj hk
  obtain ⟨k, rfl⟩ : ∃ m, k = m + 1 := ⟨k - 1, by omega⟩
  simp only [PNm.portmanteauref10_Check.l1]
  rw [if_neg (by omega), hend k (by omega), List.drop_of_length_le (by omega)]; rfl
 | succ n ih =>
  intro j k h hj hk
  obtain ⟨k, rfl⟩ : ∃ m, k = m + 1 := ⟨k - 1, by omega⟩
  simp only [PNm.portmanteauref10_Check.l1]
  by_cases hlt : j < l.length
  ·
   rw [if_pos (by omega), if_pos (by omega), if_pos (by omega), rd_at l j hlt, List.drop_eq_getElem_cons hlt, List.any_cons]
   have hs := safe_not l[j]
   by_cases h1 : l[j].toList = []
   ·
    rw [if_pos h1, hs.2 (.inl h1)]; rfl
   ·
    rw [if_neg h1]
    by_cases h2 : l[j].toList = [46]
    ·
     rw [if_pos h2, hs.2 (.inr (.inl h2))]; rfl
    ·
     rw [if_neg h2]
     by_cases h3 : l[j].toList = [46, 46]
     ·
      rw [if_pos h3, hs.2 (.inr (.inr h3))]; rfl
     ·
      have h4 : safeL l[j].data.toList = true := by
       cases h5 : safeL l[j].data.toList
       ·
        rcases hs.1 h5 with e | e | e
        ·
         exact absurd e h1
        ·
         exact absurd e h2
        ·
         exact absurd e h3
       ·
        rfl
      rw [if_neg h3, h4, show wrap64 ((j : Int) + 1) = ((j + 1 : Nat) : Int) by unfold wrap64; omega, ih (j + 1) k (by omega) (by omega) (by omega)]
      rfl
  ·
   rw [if_neg (by omega), hend k (by omega), List.drop_of_length_le (by omega)]; rfl
/-- What Check says of a path whose bytes may be. -/
def tailR (p : ByteArray) (d : Bool) : ByteArray × Bool × Int :=
 if (splitT p).any (fun x => !safeL x.data.toList) then (E0, false, 21) else if (splitT p).any (fun x => decide (255 < x.size) || decide (32 < (splitT p).length)) then (E0, false, 5) else (p, d, 0)
theorem tail_f (p : ByteArray) (d : Bool) (hp : p.size ≤ 99998) (k : Nat) (hk : 3 * p.size + 10 < k) :
  ((PNm.portmanteauref10_Parts.f k p).bind fun t139 => (if (t139.length : Int) = 0 then (some (E0, false, (21 : Int))) else (PNm.portmanteauref10_Check.l1 k p d t139 t139 (t139.length : Int) 0))) = some (tailR p d) := by
 rw [rparts_f k p (by omega) (by omega)]
 simp only [Option.bind_some]
 unfold tailR
 by_cases h0 : p.data.toList = []
 ·
  have e1 : partsT p = [] := by unfold partsT partsL; rw [if_pos h0]; rfl
  have e2 : (splitT p).any (fun x => !safeL x.data.toList) = true := by
   rw [any_mk (fun x => !safeL x), h0]; rfl
  rw [e1, e2]; rfl
 ·
  have e1 : partsT p = splitT p := by unfold partsT partsL splitT; rw [if_neg h0]
  have hl := splitT_length p
  have hne : (splitT p).length ≠ 0 := by
   unfold splitT
   rw [List.length_map]
   intro e
   exact splitL_ne _ (List.eq_nil_of_length_eq_zero e)
  rw [e1, if_neg (by omega)]
  have h := l1_f p d (splitT p) (by omega) (splitT p).length 0 k (by omega) (by omega) (by omega)
  rw [List.drop_zero] at h
  exact h
theorem l0_f (a p : ByteArray) (d : Bool) (ha : a.size ≤ 99998) (hp : p.size ≤ a.size) (n : Nat) : ∀ (i k : Nat), a.size - i ≤ n → n + 3 * a.size + 20 < k →
  PNm.portmanteauref10_Check.l0 k a p d (i : Int) = some (if (a.data.toList.drop i).any (fun c => c == 0 || c == 92) then (E0, false, 21) else tailR p d) := by
 induction n with
 | zero =>
  intro i k h hk
  obtain ⟨k, rfl⟩ : ∃ m, k = m + 1 := ⟨k - 1, by omega⟩
  simp only [PNm.portmanteauref10_Check.l0]
  rw [if_neg (by omega), List.drop_of_length_le (by rw [len_data]; omega)]
  exact tail_f p d (by omega) k (by omega)
 | succ n ih =>
  intro i k h hk
  obtain ⟨k, rfl⟩ : ∃ m, k = m + 1 := ⟨k - 1, by omega⟩
  simp only [PNm.portmanteauref10_Check.l0]
  by_cases hi : i < a.size
  ·
   rw [if_pos (by omega), if_pos (by omega), drop_data a i hi, List.any_cons]
   have b0 : bt a (i : Int) = 0 ↔ _ := bt_is a i hi 0 (by omega)
   have b1 : bt a (i : Int) = 92 ↔ _ := bt_is a i hi 92 (by omega)
   by_cases h1 : bt a (i : Int) = 0
   ·
    rw [if_pos h1, b0.1 h1]; rfl
   ·
    rw [if_neg h1]
    by_cases h2 : bt a (i : Int) = 92
    ·
     rw [if_pos h2, b1.1 h2]; rfl
    ·
     rw [if_neg h2]
     have n0 := fun e => h1 (b0.2 e)
     have n1 := fun e => h2 (b1.2 e)
     rw [show wrap64 ((i : Int) + 1) = ((i + 1 : Nat) : Int) by unfold wrap64; omega, ih (i + 1) k (by omega) (by omega)]
     have e : (a.data.toList[i]'(by rw [len_data]; exact hi) == 0 || a.data.toList[i]'(by rw [len_data]; exact hi) == 92) = false := by
      rw [Bool.or_eq_false_iff, beq_eq_false_iff_ne, beq_eq_false_iff_ne]
      exact ⟨n0, n1⟩
     rw [e, Bool.false_or]
  ·
   rw [if_neg (by omega), List.drop_of_length_le (by rw [len_data]; omega)]
   exact tail_f p d (by omega) k (by omega)
theorem bad_any (a : ByteArray) : (a.data.toList.any fun c => c == 0 || c == 92) = badBytes a := by
 unfold badBytes
 rw [NameKeepLaw.anyB]
 congr 1
 funext c
 rw [List.contains_cons, List.contains_cons, List.contains_nil, Bool.or_false]
theorem cut_last (a : ByteArray) (h : 0 < a.size) : cutT a = (if bt a ((a.size : Int) - 1) = 47 then a.extract 0 (a.size - 1) else a) ∧ isDir a = decide (bt a ((a.size : Int) - 1) = 47) := by
 have hb : bt a ((a.size : Int) - 1) = 47 ↔ a.data.toList[a.size - 1]'(by rw [len_data]; omega) = 47 := by
  rw [show (a.size : Int) - 1 = ((a.size - 1 : Nat) : Int) by omega]
  exact bt_is a (a.size - 1) (by omega) 47 (by omega)
 have hsuf : Lib.hasSuffix a.data.toList [47] = true ↔ a.data.toList[a.size - 1]'(by rw [len_data]; omega) = 47 := by
  unfold Lib.hasSuffix
  rw [List.isSuffixOf_iff_suffix]
  have hd := List.dropLast_concat_getLast (l := a.data.toList) (by intro e; have := congrArg List.length e; rw [len_data, List.length_nil] at this; omega)
  have hg : a.data.toList.getLast (by intro e; have := congrArg List.length e; rw [len_data, List.length_nil] at this; omega) = a.data.toList[a.size - 1]'(by rw [len_data]; omega) := by
   rw [List.getLast_eq_getElem]
   simp only [len_data]
  rw [hg] at hd
  constructor
  ·
   rintro ⟨t, ht⟩
   rw [← hd] at ht
   have := List.append_inj_right' ht rfl
   simp at this
   exact this.symm
  ·
   intro e
   rw [e] at hd
   exact ⟨_, hd⟩
 by_cases h1 : bt a ((a.size : Int) - 1) = 47
 ·
  have h2 := hsuf.2 (hb.1 h1)
  rw [if_pos h1, decide_eq_true h1]
  refine ⟨?_, h2⟩
  unfold cutT Lib.trimSuffix
  rw [if_pos h2]
  apply Go.WideShapes.bytes_inj
  rw [← Lib.toList_data (a.extract _ _), Lib.extract_toList]
  simp [len_data]
 ·
  have h2 : Lib.hasSuffix a.data.toList [47] = false := by
   rw [Bool.eq_false_iff]
   exact fun e => h1 (hb.2 (hsuf.1 e))
  rw [if_neg h1, decide_eq_false h1]
  exact ⟨cut_same h2, h2⟩
theorem tail_check (a : ByteArray) (h0 : ¬ 65535 < a.size) (h1 : a.toList ≠ []) (h2 : validT a = true) (h3 : badBytes a = false) : tailR (cutT a) (isDir a) = (checkP a, checkD a, checkE a) := by
 have hE : checkE a = if badParts a = true then 21 else if 32 < (splitT (cutT a)).length then 5 else if longParts a = true then 5 else 0 := by
  unfold checkE
  rw [if_neg h0, if_neg h1, if_neg (by rw [h2]; simp), if_neg (by rw [h3]; simp)]
 have hT : tailR (cutT a) (isDir a) = if badParts a = true then (E0, false, 21) else if (splitT (cutT a)).any (fun x => decide (255 < x.size) || decide (32 < (splitT (cutT a)).length)) then (E0, false, 5) else (cutT a, isDir a, 0) := rfl
 have hne : 0 < (splitT (cutT a)).length := by
  unfold splitT
  rw [List.length_map]
  exact List.length_pos_iff.2 (splitL_ne _)
 unfold checkP checkD
 rw [hE, hT]
 by_cases h4 : badParts a = true
 ·
  rw [if_pos h4, if_pos h4]; rfl
 ·
  rw [if_neg h4, if_neg h4]
  by_cases h5 : 32 < (splitT (cutT a)).length
  ·
   rw [if_pos h5]
   have : (splitT (cutT a)).any (fun x => decide (255 < x.size) || decide (32 < (splitT (cutT a)).length)) = true := by
    rw [List.any_eq_true]
    exact ⟨(splitT (cutT a))[0], List.getElem_mem hne, by rw [decide_eq_true h5, Bool.or_true]⟩
   rw [this]; rfl
  ·
   rw [if_neg h5]
   have : (splitT (cutT a)).any (fun x => decide (255 < x.size) || decide (32 < (splitT (cutT a)).length)) = longParts a := by
    unfold longParts
    congr 1
    funext x
    rw [decide_eq_false h5, Bool.or_false]
   rw [this]
   by_cases h6 : longParts a = true
   ·
    rw [if_pos h6, if_pos h6]; rfl
   ·
    rw [if_neg h6, if_neg h6]; rfl
theorem rcheck_f (k : Nat) (a : ByteArray) (ha : a.size ≤ 90000) (hk : 5 * a.size + 50 < k) : PNm.portmanteauref10_Check.f k a = some (checkP a, checkD a, checkE a) := by
 unfold PNm.portmanteauref10_Check.f
 obtain ⟨k, rfl⟩ : ∃ m, k = m + 2 := ⟨k - 2, by omega⟩
 by_cases h0 : 65535 < a.size
 ·
  rw [if_pos (by omega)]
  have e : checkE a = 5 := by unfold checkE; rw [if_pos h0]
  unfold checkP checkD; rw [e]; rfl
 ·
  rw [if_neg (by omega)]
  by_cases h1 : a.toList = []
  ·
   have hz : a.size = 0 := by rw [← len_data, ← Lib.toList_data, h1]; rfl
   rw [if_pos (by omega)]
   have e : checkE a = 20 := by unfold checkE; rw [if_neg h0, if_pos h1]
   unfold checkP checkD; rw [e]
   simp only [PNm.portmanteauref10_Check.j0, if_true]; rfl
  ·
   have hz : 0 < a.size := by rw [← len_data, ← Lib.toList_data]; exact List.length_pos_iff.2 h1
   rw [if_neg (by omega), strays_f _ a (by omega) (by omega)]
   simp only [Option.bind_some]
   simp only [PNm.portmanteauref10_Check.j0]
   by_cases h2 : validT a = true
   ·
    rw [h2, if_neg (by simp), show wrap64 ((a.size : Int) - 1) = (a.size : Int) - 1 by unfold wrap64; omega, if_pos (by omega), if_pos (by omega)]
    obtain ⟨c1, c2⟩ := cut_last a hz
    have hsz := cutT_size a
    have key : ∀ p d, p = cutT a → d = isDir a → PNm.portmanteauref10_Check.j1 (k + 1) a p d = some (checkP a, checkD a, checkE a) := by
     intro p d hp hd
     subst hp hd
     simp only [PNm.portmanteauref10_Check.j1]
     have h := l0_f a (cutT a) (isDir a) (by omega) hsz a.size 0 k (by omega) (by omega)
     rw [List.drop_zero, bad_any] at h
     refine h.trans ?_
     by_cases h3 : badBytes a = true
     ·
      rw [if_pos h3]
      have e : checkE a = 21 := by unfold checkE; rw [if_neg h0, if_neg h1, if_neg (by rw [h2]; simp), if_pos h3]
      unfold checkP checkD; rw [e]; rfl
     ·
      rw [if_neg h3, tail_check a h0 h1 h2 (by simpa using h3)]
    by_cases h4 : bt a ((a.size : Int) - 1) = 47
    ·
     rw [if_pos h4, if_pos (by omega)]
     refine key _ _ ?_ ?_
     ·
      rw [c1, if_pos h4, show ((a.size : Int) - 1).toNat = a.size - 1 by omega]
     ·
      rw [c2, decide_eq_true h4]
    ·
     rw [if_neg h4]
     refine key _ _ ?_ ?_
     ·
      rw [c1, if_neg h4]
     ·
      rw [c2, decide_eq_false h4]
   ·
    have h2' : validT a = false := by simpa using h2
    rw [h2', if_pos (by simp)]
    have e : checkE a = 20 := by unfold checkE; rw [if_neg h0, if_neg h1, if_pos h2']
    unfold checkP checkD; rw [e]; rfl
end Go.Proofs.YtibmfjacfbpfgaaGreatDoor.NameCheckRef
