/- tree: a right tree, laid on an empty disk, is shown as it was; filled it is as it was; it differs from itself nowhere. -/
import Derived.Test.YtibmfjacfbpfgaaGreatDoorDiskB
import Derived.Test.YtibmfjacfbpfgaaGreatDoorTreeT
set_option linter.unusedVariables false
set_option linter.unusedSimpArgs false
namespace Go.Proofs.YtibmfjacfbpfgaaGreatDoor.BackLaw
open Stab SortLaw YtibmfjacfbpfgaaGreatDoor.Item TreeLaw NameLaw NameCmp NameWalk NameOrd NameRef NameKeepLaw SortIns NodeRes TreeNodes TreeRight FillLaw DiffLaw RealLaw DoneLaw KeepLaw RealKeep OpLaw OpKeep JoinLaw StepA DkLaw OwnLeaf DLay
theorem ba_ext {a b : ByteArray} (h : a.data.toList = b.data.toList) : a = b := ByteArray.ext (Array.toList_inj.1 h)
theorem cmpL_same : ∀ l : List UInt8, cmpL l l = 0
 | [] => rfl
 | a :: l => by unfold cmpL; rw [if_neg (u8_irr a), if_neg (u8_irr a)]; exact cmpL_same l
theorem cmpP_pre : ∀ (l : List (List UInt8)) (x : List UInt8) (r : List (List UInt8)), cmpP l (l ++ x :: r) = -1
 | [], x, r => rfl
 | p :: l, x, r => by
  show (if cmpL p p = 0 then cmpP l (l ++ x :: r) else cmpL p p) = -1
  rw [if_pos (cmpL_same p)]
  exact cmpP_pre l x r
theorem partsL_ne {u : ByteArray} (h : u.data.toList ≠ []) : partsL u.data.toList ≠ [] := by
 unfold partsL
 rw [if_neg h]
 exact splitL_ne _
theorem parent_ahead {u : ByteArray} (hf : Full u) (h : u.data.toList ≠ []) : orderT (parentT u) u < 0 := by
 have hne := partsL_ne h
 have e : partsL u.data.toList = (partsL u.data.toList).dropLast ++ [(partsL u.data.toList).getLast hne] := (List.dropLast_concat_getLast hne).symm
 show cmpP (partsL (parentT u).data.toList) (partsL u.data.toList) < 0
 rw [parent_parts hf]
 generalize (partsL u.data.toList).getLast hne = q at e
 generalize (partsL u.data.toList).dropLast = dl at e ⊢
 rw [e, cmpP_pre]
 decide
theorem last_split {α : Type} {l : List α} (h : l ≠ []) (d : α) : l = l.dropLast ++ [l.getLast?.getD d] := by
 have hp := List.length_pos_iff.2 h
 rw [List.getLast?_eq_getElem?, List.getElem?_eq_getElem (by omega), List.dropLast_eq_take]
 have e := List.take_succ_eq_append_getElem (l := l) (i := l.length - 1) (by omega)
 rw [show l.length - 1 + 1 = l.length by omega, List.take_length] at e
 exact e
theorem partsT_ne {u : ByteArray} (h : u.data.toList ≠ []) : partsT u ≠ [] := fun e => by
 have h1 := partsT_data u
 rw [e] at h1
 exact partsL_ne h h1.symm
theorem parts_split {u : ByteArray} (hf : Full u) (h : u.data.toList ≠ []) : (partsT u).dropLast = partsT (parentT u) ∧ partsT u = partsT (parentT u) ++ [lastB (partsT u)] := by
 have h1 : (partsT u).dropLast = partsT (parentT u) := by rw [partsT_parent hf, List.dropLast_eq_take]
 refine ⟨h1, ?_⟩
 rw [← h1]
 exact last_split (partsT_ne h) _
theorem join_last {u : ByteArray} (hf : Full u) (h : u.data.toList ≠ []) : joinS (parentT u) (lastB (partsT u)) = u := by
 refine ba_ext ?_
 rw [← join_glue, ← (parts_split hf h).2, partsT_data]
 unfold partsL
 rw [if_neg h, join_split]
theorem last_mem {u : ByteArray} (h : u.data.toList ≠ []) : lastB (partsT u) ∈ partsT u := by
 have := last_split (partsT_ne h) (⟨#[]⟩ : ByteArray)
 unfold lastB
 rw [this]
 simp
theorem ok_full {x : It} (h : okName x = true) : Full x.1 ∧ x.1.data.toList ≠ [] ∧ ∀ p ∈ partsT x.1, safeL p.data.toList = true := by
 have ho := ok_check h
 have hs := check_safe ho.1
 rw [← checkP_is ho.1, ho.2.2] at hs
 have hne := check_ne ho.1
 refine ⟨fun q hq => ?_, hne, fun p hp => ?_⟩
 ·
  unfold partsL at hq
  rw [if_neg hne] at hq
  exact safe_ne (hs q hq)
 ·
  unfold partsT partsL at hp
  rw [if_neg hne] at hp
  obtain ⟨m, hm, rfl⟩ := List.mem_map.1 hp
  exact hs m hm
theorem safe_dots {p : ByteArray} (h : safeL p.data.toList = true) : p.data.toList ≠ [] ∧ p ≠ dot1 ∧ p ≠ dot2 := by
 refine ⟨safe_ne h, fun e => ?_, fun e => ?_⟩
 ·
  rw [e] at h; exact absurd h (by decide)
 ·
  rw [e] at h; exact absurd h (by decide)
theorem dir_item {s : List It} (h : RightP s) {u : ByteArray} (h0 : u.data.toList ≠ []) (hk : kindOf s u = 1) : ∃ y ∈ s, y.1 = u ∧ okName y = true := by
 rw [kind_find h0] at hk
 cases hf : findP s u with
 | none => rw [hf] at hk; cases hk
 | some y =>
  obtain ⟨hy, e⟩ := find_mem hf
  exact ⟨y, hy, e, (((right_iff s).1 h).2 y hy).1⟩
theorem walk_dirs {s : List It} (h : RightP s) : ∀ (n : Nat) (u : ByteArray), u.size ≤ n → kindOf s u = 1 → (partsT u).foldl (walkR s 16) (⟨#[]⟩, 0, 0) = (u, 0, 0) := by
 intro n
 induction n with
 | zero =>
  intro u hu _
  have : u = ⟨#[]⟩ := ba_ext (by have := len_data u; exact List.length_eq_zero_iff.1 (by omega))
  subst this
  rfl
 | succ n ih =>
  intro u hu hk
  by_cases h0 : u.data.toList = []
  ·
   have : u = ⟨#[]⟩ := ba_ext h0
   subst this
   rfl
  ·
   obtain ⟨y, hy, e, ho⟩ := dir_item h h0 hk
   subst e
   obtain ⟨hf, _, hsafe⟩ := ok_full ho
   have hlt := parent_lt h0
   have hih := ih (parentT y.1) (by omega) (dir_parent h hk)
   obtain ⟨q1, q2, q3⟩ := safe_dots (hsafe _ (last_mem h0))
   rw [(parts_split hf h0).2, List.foldl_append, hih, List.foldl_cons, List.foldl_nil]
   have hj := join_last hf h0
   have hw := Step.walk_dir (s := s) (n := 16) (w := (parentT y.1, 0, 0)) (p := lastB (partsT y.1)) (by rintro (e | e | e); exact e rfl; exact q1 e; exact q2 e) q3 (by rw [hj]; exact hk)
   rw [hw, hj]
theorem real_self {s : List It} (h : RightP s) {x : It} (ho : okName x = true) (hk : kindOf s (parentT x.1) = 1) : realP s x.1 = (x.1, 0) := by
 obtain ⟨h1, h2, h3⟩ := ok_check ho
 obtain ⟨hf, h0, _⟩ := ok_full ho
 have hw := walk_dirs h _ (parentT x.1) (Nat.le_refl _) hk
 have hj := join_last hf h0
 unfold realP
 rw [if_neg (by rw [h2]; rintro (e | e); exact e h1; cases e), h3, (parts_split hf h0).1, hw]
 simp only
 rw [if_neg (fun e : (0 : Int) ≠ 0 => e rfl), hj, if_neg (fun e : checkE x.1 ≠ 0 => e h1)]
theorem put_end {s : List It} {x : It} (h : ∀ y ∈ s, orderT y.1 x.1 < 0) : putP s x = s ++ [x] := by
 have hwo : woP s x.1 = s := by
  unfold woP
  rw [List.filter_eq_self]
  intro y hy
  have := h y hy
  have hne : y.1 ≠ x.1 := fun e => by rw [e, orderT_self] at this; omega
  unfold isAt
  rw [decide_eq_false hne]; rfl
 have hix : s.findIdx (behind x.1) = s.length := by
  rw [List.findIdx_eq_length]
  intro y hy
  have := h y hy
  unfold behind
  exact decide_eq_false (by omega)
 unfold putP
 rw [hwo, hix, List.take_length, List.drop_length]
def putC (x : It) : Chg := (0, x.1, ⟨#[]⟩, x.2, false)
def laid (lim : Int) (t : List It) (k : Nat) : Dk := ⟨[], (t.take k).map putC, lim, -1, 0, false, (k : Int)⟩
theorem laid_shows {t : List It} (h : Strict t) (lim : Int) : ∀ k, k ≤ t.length → (laid lim t k).shows = t.take k
 | 0, _ => rfl
 | k + 1, hk => by
  have ih := laid_shows h lim k (by omega)
  show ((t.take (k + 1)).map putC).foldl doneP [] = _
  rw [List.take_succ_eq_append_getElem (by omega), List.map_append, List.foldl_append]
  have ih : ((t.take k).map putC).foldl doneP [] = t.take k := ih
  rw [ih]
  show putP (t.take k) (t[k].1, t[k].2) = _
  rw [put_end]
  intro y hy
  obtain ⟨j, hj, rfl⟩ := List.mem_take_iff_getElem.1 hy
  exact List.pairwise_iff_getElem.1 h j k (by omega) (by omega) (by omega)
theorem find_take {t : List It} (hs : Strict t) {j k : Nat} (hj : j < k) (hk : k ≤ t.length) : findP (t.take k) (t[j]'(by omega)).1 = some (t[j]'(by omega)) := by
 have hm : (t[j]'(by omega)) ∈ t.take k := List.mem_take_iff_getElem.2 ⟨j, by omega, rfl⟩
 cases hg : findP (t.take k) (t[j]'(by omega)).1 with
 | none =>
  unfold findP at hg
  exact absurd (isAt_self (t[j]'(by omega))) (List.find?_eq_none.1 hg _ hm)
 | some z =>
  obtain ⟨hz, ez⟩ := find_mem hg
  obtain ⟨i, hi, rfl⟩ := List.mem_take_iff_getElem.1 hz
  have hij : i = j := by
   rcases Nat.lt_trichotomy i j with g | g | g
   ·
    have := List.pairwise_iff_getElem.1 hs i j (by omega) (by omega) g
    rw [ez, orderT_self] at this; omega
   ·
    exact g
   ·
    have := List.pairwise_iff_getElem.1 hs j i (by omega) (by omega) g
    rw [ez, orderT_self] at this; omega
  subst hij
  rfl
theorem kind_take {t : List It} (h : RightP t) {k : Nat} (hk : k < t.length) : kindOf (t.take k) (parentT t[k].1) = 1 := by
 have hs := (right_iff t).1 h
 obtain ⟨ho, _, hp⟩ := hs.2 _ (List.getElem_mem hk)
 by_cases h0 : (parentT t[k].1).data.toList = []
 ·
  exact kind_nil _ _ h0
 ·
  rw [kind_find h0] at hp ⊢
  cases hf : findP t (parentT t[k].1) with
  | none => rw [hf] at hp; cases hp
  | some y =>
   rw [hf] at hp
   obtain ⟨hy, e⟩ := find_mem hf
   obtain ⟨j, hj, rfl⟩ := List.mem_iff_getElem.1 hy
   obtain ⟨hfu, hne, _⟩ := ok_full ho
   have hlt := parent_ahead hfu hne
   rw [← e] at hlt
   have hjk : j < k := by
    rcases Nat.lt_trichotomy j k with g | g | g
    ·
     exact g
    ·
     subst g; rw [orderT_self] at hlt; omega
    ·
     have := List.pairwise_iff_getElem.1 hs.1 k j hk hj g
     rw [orderT_neg] at this; omega
   have hf2 := find_take hs.1 hjk (Nat.le_of_lt hk)
   rw [e] at hf2
   rw [hf2]
   exact hp
theorem not_there {t : List It} (h : Strict t) {k : Nat} (hk : k < t.length) (h0 : t[k].1.data.toList ≠ []) : kindOf (t.take k) t[k].1 = 0 := by
 rw [kind_find h0]
 have : findP (t.take k) t[k].1 = none := by
  unfold findP
  rw [List.find?_eq_none]
  intro y hy
  obtain ⟨j, hj, rfl⟩ := List.mem_take_iff_getElem.1 hy
  have := List.pairwise_iff_getElem.1 h j k (by omega) hk (by omega)
  unfold isAt
  intro e
  rw [of_decide_eq_true e, orderT_self] at this
  omega
 rw [this]
theorem sumO_le (p : ByteArray) (m : Nat) : ∀ s : List It, (∀ x ∈ s, x.2.2.2.2.2.2.2.size ≤ m) → sumO s p ≤ m * s.length
 | [], _ => by simp [sumO]
 | x :: s, h => by
  have h1 := sumO_le p m s (fun y hy => h y (by simp [hy]))
  have h2 := h x (by simp)
  unfold sumO at h1 ⊢
  rw [List.filter_cons]
  split
  ·
   rw [List.map_cons, List.sum_cons, List.length_cons, Nat.mul_add]; omega
  ·
   rw [List.length_cons, Nat.mul_add]; omega
theorem lay_from {t : List It} (h : RightP t) (hd : ∀ x ∈ t, x.2.1 = 1 → x.2.2.2.2.2.2.2.size = 0) (hm : ∀ x ∈ t, masked x.2.2.1 = x.2.2.1) (hz : ∀ x ∈ t, x.2.2.2.2.2.2.2.size ≤ 5000) (hl : t.length ≤ 100) :
  ∀ (n k : Nat), k + n = t.length → Trees (laid 1073741824 t k) → layP nzP ⟨#[]⟩ (laid 1073741824 t k) (t.drop k) = (0, laid 1073741824 t t.length)
 | 0, k, hk, _ => by rw [List.drop_of_length_le (by omega), show k = t.length by omega]; rfl
 | n + 1, k, hk, hT => by
  have hs := (right_iff t).1 h
  have hkl : k < t.length := by omega
  have hsh := laid_shows hs.1 1073741824 k (by omega)
  obtain ⟨ho, hki, _⟩ := hs.2 _ (List.getElem_mem hkl)
  obtain ⟨_, hne, _⟩ := ok_full ho
  have hR : RightP (t.take k) := by have := Trees.shows hT; rw [hsh] at this; exact this
  have hre := real_self hR ho (kind_take h hkl)
  have hno := not_there hs.1 hkl hne
  have hsum := sumO_le t[k].1 5000 (t.take k) (fun x hx => hz x (List.mem_of_mem_take hx))
  have hxz := hz _ (List.getElem_mem hkl)
  have hxm := hm _ (List.getElem_mem hkl)
  have hxd := hd _ (List.getElem_mem hkl)
  have hbeg : beginD (laid 1073741824 t k) = (0, laid 1073741824 t k) := by
   unfold beginD
   rw [if_neg (fun e : (laid 1073741824 t k).off = true => by cases e), if_neg (fun e : (laid 1073741824 t k).fuse = 0 => absurd (show (-1 : Int) = 0 from e) (by decide)), if_neg (fun e : (laid 1073741824 t k).fail = 1 => absurd (show (0 : Int) = 1 from e) (by decide)), if_neg (fun e : 1 < (laid 1073741824 t k).fail => absurd (show (1 : Int) < 0 from e) (by decide))]
  have hop : opD nzP (laid 1073741824 t k) 0 (joinS ⟨#[]⟩ t[k].1) ⟨#[]⟩ t[k].2 = (0, laid 1073741824 t (k + 1)) := by
   rw [join_nil]
   have hmk := make_ok nzP (laid 1073741824 t k) t[k].1 ⟨#[]⟩ t[k].2 (by rw [hsh, hre]) (by
     unfold okKind at hki
     rw [Bool.and_eq_true, decide_eq_true_eq, decide_eq_true_eq] at hki
     rintro (e | e | ⟨e1, e2⟩)
     ·
      omega
     ·
      omega
     ·
      have := hxd e1; omega) (by rw [hsh, hre]; exact hno) (by
     rw [hsh, hre]
     rw [List.length_take] at hsum
     have : sumO (t.take k) t[k].1 ≤ 500000 := by
      have : min k t.length ≤ 100 := by omega
      exact Nat.le_trans hsum (by omega)
     show ¬ (1073741824 : Int) < (t[k].2.2.2.2.2.2.2.size : Int) + (sumO (t.take k) t[k].1 : Int)
     omega)
   rw [op_done (nz := nzP) (by rw [hbeg]) (by rw [hbeg]) hmk, hsh, hre]
   have hnm : nzP 0 (nodeM t[k].2) = t[k].2 := by
    unfold nzP
    rw [if_pos (.inl rfl)]
    unfold nodeM
    rw [hxm]
   rw [hnm]
   unfold endD waitD laid
   rw [List.take_succ_eq_append_getElem hkl, List.map_append]
   rfl
  have hT2 : Trees (laid 1073741824 t (k + 1)) := by
   have := op_trees hT 0 (joinS ⟨#[]⟩ t[k].1) ⟨#[]⟩ t[k].2
   rw [hop] at this
   exact this
  have ih := lay_from h hd hm hz hl n (k + 1) (by omega) hT2
  rw [List.drop_eq_getElem_cons hkl, lay_on (by rw [hop]), hop]
  exact ih
theorem lay_back {t : List It} (h : RightP t) (hd : ∀ x ∈ t, x.2.1 = 1 → x.2.2.2.2.2.2.2.size = 0) (hm : ∀ x ∈ t, masked x.2.2.1 = x.2.2.1) (hz : ∀ x ∈ t, x.2.2.2.2.2.2.2.size ≤ 5000) (hl : t.length ≤ 100) :
  ∃ d : Dk, layP nzP ⟨#[]⟩ ⟨[], [], 1073741824, -1, 0, false, 0⟩ t = (0, d) ∧ d.shows = t := by
 have hT : Trees (laid 1073741824 t 0) := fun k => by
  show RightP (([] : List Chg).take k |>.foldl doneP [])
  rw [List.take_nil]
  intro j x hx
  simp at hx
 refine ⟨_, lay_from h hd hm hz hl t.length 0 (by omega) hT, ?_⟩
 rw [laid_shows ((right_iff t).1 h).1 _ _ (Nat.le_refl _), List.take_length]
theorem sort_self {t : List It} (h : Strict t) : sortP t = t := (sort_is (Stb.refl (h.imp (fun {x y} hxy => by
 unfold ltI
 exact decide_eq_false (by rw [orderT_neg]; omega))))).symm
theorem fill_up {r : List It} (h : RightP r) (d : Nd) : ∀ (n : Nat) (p : ByteArray) (s : St), kindOf r p = 1 → fillUp r d n p s = some s
 | 0, p, s, _ => rfl
 | n + 1, p, s, hk => by
  unfold fillUp
  by_cases h0 : p.data.toList = []
  ·
   rw [if_pos h0]
  ·
   rw [if_neg h0]
   have hk2 := hk
   rw [kind_find h0] at hk2
   cases hf : findP r p with
   | none => rw [hf] at hk2; cases hk2
   | some y =>
    rw [hf] at hk2
    have hn : nodeP r p = some y.2 := by unfold nodeP; rw [hf]; rfl
    rw [hn]
    simp only
    rw [if_pos hk2]
    exact fill_up h d n (parentT p) s (dir_parent h hk)
theorem fill_all {r : List It} (h : RightP r) (d : Nd) : ∀ (l : List It) (s : St), (∀ x ∈ l, kindOf r (parentT x.1) = 1) → fillAll r d l s = some s
 | [], s, _ => rfl
 | x :: l, s, hl => by
  unfold fillAll
  rw [fill_up h d _ _ s (hl x (by simp))]
  exact fill_all h d l s (fun y hy => hl y (by simp [hy]))
theorem fill_self {t : List It} (h : RightP t) (d : Nd) : fillP t d = (t, true) := by
 have hs := (right_iff t).1 h
 unfold fillP
 rw [sort_self hs.1, fill_all h d t _ (fun x hx => (hs.2 x hx).2.2)]
theorem dif_self (t : List It) : difP t t = [] := by
 have h := (dif_is t t).2
 cases hd : difP t t with
 | nil => rfl
 | cons p l =>
  have := (h p).1 (by rw [hd]; simp)
  unfold difB at this
  simp at this
end Go.Proofs.YtibmfjacfbpfgaaGreatDoor.BackLaw
