/- sort: symMerge, the stable sort. -/
import Derived.Test.YtibmfjacfbpfgaaGreatDoorSortM
set_option linter.unusedVariables false
set_option linter.unusedSimpArgs false
namespace Go.Proofs.YtibmfjacfbpfgaaGreatDoor.Sort
open Go.RowKit YtibmfjacfbpfgaaGreatDoorW.PrintWords YtibmfjacfbpfgaaGreatDoorW.PrintLast YtibmfjacfbpfgaaGreatDoorW.PrintMore YtibmfjacfbpfgaaGreatDoor.Item Own Stab SortLaw TreeLaw NameWalk SortSwap SortIns SortMrgA SortMrgB SortMrgC SortMrgD
theorem merge_any (W0 : World) (hgl : Glob W0) (g N c : Nat) (hN : N ≤ 1000000) (K : Nat) : ∀ (p u v q : List It) (W : World) (a m b : Nat), u.length + v.length < K → 0 < u.length → 0 < v.length → a = p.length → m = a + u.length → b = m + v.length → Sorted ltI u → Sorted ltI v → Short u → Short v → Below W0.heap.size W0 W → Row W W0.heap.size g N c (p ++ (u ++ (v ++ q))) →
  Calls Tryz.prog 158 #[.slice (some ⟨g, 0, none⟩) N c, .int .i64 (a : Nat), .int .i64 (m : Nat), .int .i64 (b : Nat), .func (.func 110) #[] #[]] W (MPost W0 g N c p (u ++ v) q W) := by
 induction K with
 | zero => intro p u v q W a m b h; omega
 | succ K ih =>
  intro p u v q W a m b hK hu hv ha hm hb hsu hsv hzu hzv hB h
  by_cases h1 : u.length = 1
  ·
   obtain ⟨x, rfl⟩ := List.length_eq_one_iff.1 h1
   obtain ⟨x0, x1, x2, x3, x4, x5, x6, x7⟩ := x
   refine (mergeA W0 hgl g N c a m b p v q x0 x1 x2 x3 x4 x5 x6 x7 W hN ha hm hb hsv (hzu (x0, x1, x2, x3, x4, x5, x6, x7) List.mem_cons_self) hzv hB h).mono ?_
   intro e w' h2
   exact h2
  ·
   by_cases h2 : v.length = 1
   ·
    obtain ⟨y, rfl⟩ := List.length_eq_one_iff.1 h2
    obtain ⟨y0, y1, y2, y3, y4, y5, y6, y7⟩ := y
    refine (mergeB W0 hgl g N c a m b p u q y0 y1 y2 y3 y4 y5 y6 y7 W hN ha hm hb (by omega) hsu (hzv (y0, y1, y2, y3, y4, y5, y6, y7) List.mem_cons_self) hzu hB h).mono ?_
    intro e w' h2
    exact h2
   ·
    exact mergeC W0 hgl g N c K hN ih p u v q W a m b (by omega) (by omega) (by omega) ha hm hb hsu hsv hzu hzv hB h
set_option maxHeartbeats 1000000 in
theorem ins_none (v cv : Value) (a b : Nat) (W : World) (ha : a ≤ 1000000) (hb : b ≤ a + 1) : Calls Tryz.prog 157 #[v, .int .i64 (a : Nat), .int .i64 (b : Nat), cv] W fun e w' => e = .returned (.tuple #[]) ∧ w' = W := by
 have hbI : ¬ (a : Int) + 1 < (b : Int) := by omega
 go_enter Tryz.func157, Tryz.ntmps157
 go_wp2
 go_loopg [8] 0 (fun gg vi wr => vi = .int .i64 ((a : Int) + 1) ∧ wr = W)
 case atStart => exact ⟨rfl, rfl⟩
 case round =>
  obtain ⟨rfl, rfl⟩ := hrel
  go_wp2
  go_end0
  exact ⟨rfl, rfl⟩
theorem ins_all (W0 : World) (hgl : Glob W0) (g N c a b : Nat) (l : List It) (W : World) (hN : N ≤ 1000000) (hab : a ≤ b) (hbN : b ≤ N) (hsz : Short l) (hB : Below W0.heap.size W0 W) (h : Row W W0.heap.size g N c l) :
  Calls Tryz.prog 157 #[.slice (some ⟨g, 0, none⟩) N c, .int .i64 a, .int .i64 b, .func (.func 110) #[] #[]] W fun e w' => e = .returned (.tuple #[]) ∧ (∃ s, Row w' W0.heap.size g N c (l.take a ++ (s ++ l.drop b)) ∧ Stb ltI (seg l a b) s) ∧ W.grownBy w' (some g) := by
 have e := cut3 l hab
 have hl := h.1
 by_cases h0 : a < b
 ·
  refine ins_any W0 hgl g N c a b (l.take a) (seg l a b) (l.drop b) W hN ?_ ?_ ?_ ?_ hB (by rw [← e]; exact h)
  ·
   rw [List.length_take]; omega
  ·
   rw [seg_len (by omega)]; omega
  ·
   rw [seg_len (by omega)]; omega
  ·
   intro x hx; exact hsz x (List.mem_of_mem_drop (List.mem_of_mem_take hx))
 ·
  refine (ins_none _ _ a b W (by omega) (by omega)).mono ?_
  rintro e1 w' ⟨rfl, rfl⟩
  have hs : seg l a b = [] := List.eq_nil_of_length_eq_zero (by rw [seg_len (by omega)]; omega)
  exact ⟨rfl, ⟨[], by rw [hs] at e; rw [← e]; exact h, by rw [hs]; exact Stb.refl Sorted.nil⟩, grown_refl _ _⟩
theorem merge_all (W0 : World) (hgl : Glob W0) (g N c a m b : Nat) (l : List It) (W : World) (hN : N ≤ 1000000) (ham : a < m) (hmb : m < b) (hbN : b ≤ N) (h1 : Sorted ltI (seg l a m)) (h2 : Sorted ltI (seg l m b)) (hsz : Short l) (hB : Below W0.heap.size W0 W) (h : Row W W0.heap.size g N c l) :
  Calls Tryz.prog 158 #[.slice (some ⟨g, 0, none⟩) N c, .int .i64 a, .int .i64 m, .int .i64 b, .func (.func 110) #[] #[]] W fun e w' => e = .returned (.tuple #[]) ∧ (∃ s, Row w' W0.heap.size g N c (l.take a ++ (s ++ l.drop b)) ∧ Stb ltI (seg l a b) s) ∧ W.grownBy w' (some g) := by
 have hl := h.1
 have e := cut3 l (show a ≤ b by omega)
 have e2 := seg_split l (show a ≤ m by omega) (show m ≤ b by omega)
 have l1 := seg_len (l := l) (a := a) (b := m) (by omega)
 have l2 := seg_len (l := l) (a := m) (b := b) (by omega)
 have := merge_any W0 hgl g N c hN _ (l.take a) (seg l a m) (seg l m b) (l.drop b) W a m b (Nat.lt_succ_self _) (by omega) (by omega) (by rw [List.length_take]; omega) (by omega) (by omega) h1 h2 (fun x hx => hsz x (List.mem_of_mem_drop (List.mem_of_mem_take hx))) (fun x hx => hsz x (List.mem_of_mem_drop (List.mem_of_mem_take hx))) hB (by rw [← List.append_assoc (seg l a m), ← e2, ← e]; exact h)
 rw [e2]
 exact this
/-- A piece has been put into its own place. -/
theorem piece {l s : List It} {a b : Nat} (h1 : a ≤ b) (h2 : b ≤ l.length) (hs : Stb ltI (seg l a b) s) :
  (l.take a ++ (s ++ l.drop b)).length = l.length ∧ (l.take a ++ (s ++ l.drop b)).take a = l.take a ∧ seg (l.take a ++ (s ++ l.drop b)) a b = s ∧ (l.take a ++ (s ++ l.drop b)).drop b = l.drop b ∧ Sim ltI l (l.take a ++ (s ++ l.drop b)) := by
 have hl : s.length = b - a := by rw [← hs.1.1, seg_len h2]
 have hta : (l.take a).length = a := by rw [List.length_take]; omega
 refine ⟨?_, ?_, ?_, ?_, ?_⟩
 ·
  simp only [List.length_append, List.length_take, List.length_drop, hl]; omega
 ·
  rw [List.take_append_of_le_length (by omega), List.take_take, Nat.min_self]
 ·
  exact seg_mid hta.symm (by omega)
 ·
  rw [← List.append_assoc, List.drop_append, List.drop_of_length_le (by rw [List.length_append]; omega), List.nil_append, List.length_append, hta, hl, show b - (a + (b - a)) = 0 by omega, List.drop_zero]
 ·
  conv => lhs; rw [cut3 l h1]
  exact Sim.mid hs.1
theorem short_sim {l m : List It} (h : Short l) (k : Sim ltI l m) : Short m := fun x hx => h x (k.symm.mem swoI hx)
/-- What is known of the row while blocks of k are merged to blocks of twice k: up to place t times that. -/
structure Half (l m : List It) (k t : Nat) : Prop where
 sim : Sim ltI l m
 ahead : Ahead ltI (2 * k) (t * (2 * k)) m
 blocks : Blocks ltI k (t * (2 * k)) m
theorem half_start {l m : List It} {k : Nat} (hk : 0 < k) (hs : Sim ltI l m) (h : Blocks ltI k 0 m) : Half l m k 0 := ⟨hs, by rw [Nat.zero_mul]; exact Ahead.zero (by omega), by rw [Nat.zero_mul]; exact h⟩
theorem half_segs {l m : List It} {k t a : Nat} (ha : a = t * (2 * k)) (h : Half l m k t) : Sorted ltI (seg m a (a + k)) ∧ Sorted ltI (seg m (a + k) (a + 2 * k)) := by
 have h0 := h.blocks 0
 have h1 := h.blocks 1
 rw [Nat.zero_mul, Nat.add_zero, ← ha] at h0
 rw [Nat.one_mul, ← ha] at h1
 rw [show a + 2 * k = a + k + k by omega]
 exact ⟨h0, h1⟩
theorem half_next {l m s : List It} {k t a : Nat} (hk : 0 < k) (ha : a = t * (2 * k)) (hb : a + 2 * k ≤ m.length) (h : Half l m k t) (hs : Stb ltI (seg m a (a + 2 * k)) s) : Half l (m.take a ++ (s ++ m.drop (a + 2 * k))) k (t + 1) := by
 obtain ⟨p1, p2, p3, p4, p5⟩ := piece (by omega) hb hs
 have e : (t + 1) * (2 * k) = a + 2 * k := by rw [Nat.add_mul, ha]; omega
 refine ⟨h.sim.trans p5, ?_, ?_⟩
 ·
  have ah := h.ahead
  rw [← ha] at ah
  have := Ahead.alike ah p2.symm
  refine Ahead.snoc (by omega) (by rw [← ha]; exact this) ?_
  rw [← ha, p3]; exact hs.2
 ·
  rw [e]
  have hbl := h.blocks
  rw [← ha] at hbl
  have := (hbl.next).next
  rw [show a + k + k = a + 2 * k by omega] at this
  exact this.alike p4.symm
/-- The last two, or one, of them. -/
theorem half_last {l m s : List It} {k t a : Nat} (hk : 0 < k) (ha : a = t * (2 * k)) (hl : m.length ≤ a + 2 * k) (haN : a ≤ m.length) (h : Half l m k t) (hs : Stb ltI (seg m a m.length) s) : Sim ltI l (m.take a ++ (s ++ m.drop m.length)) ∧ Blocks ltI (2 * k) 0 (m.take a ++ (s ++ m.drop m.length)) := by
 obtain ⟨p1, p2, p3, p4, p5⟩ := piece haN (Nat.le_refl _) hs
 refine ⟨h.sim.trans p5, ?_⟩
 have ah := h.ahead
 rw [← ha] at ah
 have := Ahead.alike ah p2.symm
 refine Ahead.whole (t := t) (by rw [← ha]; exact this) ?_ (by rw [← ha, p1]; exact hl)
 rw [← ha, seg_over _ (by rw [p1]; exact hl), ← seg_over _ (by rw [p1]; exact Nat.le_refl m.length), p3]
 exact hs.2
theorem half_one {l m : List It} {k t a : Nat} (hk : 0 < k) (ha : a = t * (2 * k)) (hl : m.length ≤ a + k) (h : Half l m k t) : Blocks ltI (2 * k) 0 m := by
 have ah := h.ahead
 refine Ahead.whole (t := t) ah ?_ (by rw [← ha]; omega)
 have h0 := (half_segs ha h).1
 rw [← ha, seg_over _ (by omega), ← seg_over _ (show m.length ≤ a + k by omega)]
 exact h0
set_option maxHeartbeats 16000000 in
set_option maxRecDepth 100000 in
theorem stable_any (W0 : World) (hgl : Glob W0) (g N c : Nat) (l : List It) (W : World) (hN : N ≤ 1000000) (hsz : Short l) (hB : Below W0.heap.size W0 W) (h : Row W W0.heap.size g N c l) :
  Calls Tryz.prog 133 #[.slice (some ⟨g, 0, none⟩) N c, .int .i64 N, .func (.func 110) #[] #[]] W fun e w' => e = .returned (.tuple #[]) ∧ Row w' W0.heap.size g N c (sortP l) ∧ W.grownBy w' (some g) := by
 have HGL := Lib.hid hgl
 have HSZ := Lib.hid hsz
 have HB := Lib.hid hB
 have HNG := Lib.hid h.base
 have HLN := Lib.hid h.1
 have HI : Hid (∃ t m, 0 = t * 20 ∧ Sim ltI l m ∧ Ahead ltI 20 (t * 20) m ∧ Row W W0.heap.size g N c m) := Lib.hid ⟨0, l, rfl, Sim.refl l, Ahead.zero (by omega), h⟩
 have HGO := Lib.hid (grown_refl W (some g))
 obtain ⟨F, hF⟩ : ∃ F, F = N := ⟨_, rfl⟩
 have hFN : N ≤ 0 + F := by omega
 clear hgl hsz hB h hF
 go_enter Tryz.func133, Tryz.ntmps133
 go_wp2
 go_loopg [7, 8] F (fun gg va vb wr => ∃ a : Nat, va = .int .i64 a ∧ vb = .int .i64 ((a + 20 : Nat)) ∧ a ≤ N ∧ N ≤ a + gg ∧ Hid (∃ t m, a = t * 20 ∧ Sim ltI l m ∧ Ahead ltI 20 (t * 20) m ∧ Row wr W0.heap.size g N c m) ∧ Hid (W.grownBy wr (some g)))
 case atStart => exact ⟨0, rfl, rfl, Nat.zero_le _, hFN, HI, HGO⟩
 case round =>
  clear HI HGO hFN
  obtain ⟨a, rfl, rfl, haN, hag, HI, HG⟩ := hrel
  obtain ⟨t, m, ht, hsim, hah, hR⟩ := HI.out
  have HT := Lib.hid ht
  have HM := Lib.hid (And.intro hsim hah)
  have HR := Lib.hid hR
  clear ht hsim hah hR HI
  by_cases hb : a + 20 ≤ N
  ·
   have hbI : ((a + 20 : Nat) : Int) ≤ (N : Int) := by omega
   have hC := ins_all W0 HGL.out g N c a (a + 20) m wr hN (by omega) hb (short_sim HSZ.out HM.out.1) (below_row HB.out HG.out HNG.out) HR.out
   have HC := Lib.hid hC
   clear hC
   go_wp2_with fail
   refine HC.out.mono ?_
   rintro e w2 ⟨rfl, ⟨s, h2, h3⟩, h4⟩
   have HI2 : Hid (∃ t m, a + 20 = t * 20 ∧ Sim ltI l m ∧ Ahead ltI 20 (t * 20) m ∧ Row w2 W0.heap.size g N c m) := Lib.hid (by
    have hml : m.length = N := HR.out.1
    obtain ⟨p1, p2, p3, p4, p5⟩ := piece (show a ≤ a + 20 by omega) (by omega) h3
    refine ⟨t + 1, _, by have := HT.out; omega, HM.out.1.trans p5, ?_, h2⟩
    have ah := HM.out.2
    rw [← HT.out] at ah
    refine Ahead.snoc (by omega) (by rw [← HT.out]; exact Ahead.alike ah p2.symm) ?_
    rw [← HT.out, p3]; exact h3.2)
   have HG2 := Lib.hid (grown_trans HG.out h4)
   clear h2 h3 h4 HC HR HM HG
   go_wp2
   go_roundg (gk - 1)
   case measure => omega
   case rel => exact ⟨a + 20, rfl, by go_num, by omega, by omega, HI2, HG2⟩
  ·
   have hbI : ¬ ((a + 20 : Nat) : Int) ≤ (N : Int) := by omega
   have hC := ins_all W0 HGL.out g N c a N m wr hN haN (Nat.le_refl _) (short_sim HSZ.out HM.out.1) (below_row HB.out HG.out HNG.out) HR.out
   have HC := Lib.hid hC
   clear hC
   go_wp2_with fail
   refine HC.out.mono ?_
   rintro e w2 ⟨rfl, ⟨s, h2, h3⟩, h4⟩
   have HI2 : Hid (∃ m, Sim ltI l m ∧ Blocks ltI 20 0 m ∧ Row w2 W0.heap.size g N c m) := Lib.hid (by
    have hml : m.length = N := HR.out.1
    obtain ⟨p1, p2, p3, p4, p5⟩ := piece haN (by omega) h3
    refine ⟨_, HM.out.1.trans p5, ?_, h2⟩
    have ah := HM.out.2
    rw [← HT.out] at ah
    refine Ahead.whole (t := t) (by rw [← HT.out]; exact Ahead.alike ah p2.symm) ?_ (by rw [← HT.out, p1]; omega)
    rw [← HT.out, seg_over _ (by rw [p1]; omega), ← seg_over _ (show _ ≤ N by rw [p1]; omega), p3]
    exact h3.2)
   have HG2 := Lib.hid (grown_trans HG.out h4)
   obtain ⟨F2, hF2⟩ : ∃ F2, F2 = N := ⟨_, rfl⟩
   have hF2N : N ≤ 20 + F2 := by omega
   clear h2 h3 h4 HC HR HM HG HT hbI hb hF2
   go_wp2
   go_loopg [6, 7, 8, 9] F2 (fun gg vk va vb vm wr => ∃ k : Nat, vk = .int .i64 k ∧ 20 ≤ k ∧ k ≤ 2000000 ∧ N ≤ k + gg ∧ Hid (∃ m, Sim ltI l m ∧ Blocks ltI k 0 m ∧ Row wr W0.heap.size g N c m) ∧ Hid (W.grownBy wr (some g)))
   case atStart => exact ⟨20, rfl, by omega, by omega, hF2N, HI2, HG2⟩
   case round =>
    clear HI2 HG2 hF2N
    obtain ⟨k, rfl, hk20, hk2, hkg, HI, HG⟩ := hrel
    by_cases hkN : k < N
    ·
     have hkI : (k : Int) < (N : Int) := by omega
     obtain ⟨go, hgo⟩ : ∃ go, go = gk := ⟨_, rfl⟩
     have hkgo : N ≤ k + go := by omega
     have HI2 : Hid (∃ m t, 0 = t * (2 * k) ∧ Half l m k t ∧ Row wr W0.heap.size g N c m) := Lib.hid (by
      obtain ⟨m, h1, h2, h3⟩ := HI.out
      exact ⟨m, 0, by omega, half_start (by omega) h1 h2, h3⟩)
     have hgo1 : go - 1 < gk := by omega
     clear HI
     obtain ⟨F3, hF3⟩ : ∃ F3, F3 = N := ⟨_, rfl⟩
     have hF3N : N ≤ 0 + F3 := by omega
     clear hF3
     go_wp2
     go_loopg [7, 8] F3 (fun gg va vb wr => ∃ a : Nat, va = .int .i64 a ∧ vb = .int .i64 ((a + 2 * k : Nat)) ∧ a ≤ N ∧ N ≤ a + gg ∧ Hid (∃ m t, a = t * (2 * k) ∧ Half l m k t ∧ Row wr W0.heap.size g N c m) ∧ Hid (W.grownBy wr (some g)))
     case atStart => exact ⟨0, rfl, by go_num, Nat.zero_le _, hF3N, HI2, HG⟩
     case round =>
      clear HI2 HG hF3N
      obtain ⟨a, rfl, rfl, haN, hag, HI, HG⟩ := hrel
      obtain ⟨m, t, ht, hhalf, hR⟩ := HI.out
      have HT := Lib.hid ht
      have HH := Lib.hid hhalf
      have HR := Lib.hid hR
      have HML := Lib.hid hR.1
      clear ht hhalf hR HI
      by_cases hb : a + 2 * k ≤ N
      ·
       have hbI : ((a + 2 * k : Nat) : Int) ≤ (N : Int) := by omega
       have hC := merge_all W0 HGL.out g N c a (a + k) (a + 2 * k) m wr hN (by omega) (by omega) hb (half_segs HT.out HH.out).1 (half_segs HT.out HH.out).2 (short_sim HSZ.out HH.out.sim) (below_row HB.out HG.out HNG.out) HR.out
       have HC := Lib.hid hC
       have HAK := Lib.hid (show (a : Int) + (k : Int) = ((a + k : Nat) : Int) by omega)
       clear hC
       go_wp2_with fail
       rw [HAK.out]
       refine HC.out.mono ?_
       rintro e w3 ⟨rfl, ⟨s, h2, h3⟩, h4⟩
       have HI3 : Hid (∃ m t, a + 2 * k = t * (2 * k) ∧ Half l m k t ∧ Row w3 W0.heap.size g N c m) := Lib.hid ⟨_, t + 1, by rw [Nat.add_mul, ← HT.out]; omega, half_next (by omega) HT.out (by rw [HML.out]; exact hb) HH.out h3, h2⟩
       have HG3 := Lib.hid (grown_trans HG.out h4)
       clear h2 h3 h4 HC HR HH HG HT HML HAK
       go_wp2
       go_roundg (gk - 1)
       case measure => omega
       case rel => exact ⟨a + 2 * k, rfl, by go_num, hb, by omega, HI3, HG3⟩
      ·
       have hbI : ¬ ((a + 2 * k : Nat) : Int) ≤ (N : Int) := by omega
       have HAK := Lib.hid (show (a : Int) + (k : Int) = ((a + k : Nat) : Int) by omega)
       by_cases hm : a + k < N
       ·
        have hmI : (a : Int) + (k : Int) < (N : Int) := by omega
        have hC := merge_all W0 HGL.out g N c a (a + k) N m wr hN (by omega) hm (Nat.le_refl _) (half_segs HT.out HH.out).1 (by
         have h := (half_segs HT.out HH.out).2
         rw [seg_over _ (by rw [HML.out]; omega)] at h ⊢
         exact h) (short_sim HSZ.out HH.out.sim) (below_row HB.out HG.out HNG.out) HR.out
        have HC := Lib.hid hC
        clear hC
        go_wp2_with fail
        rw [HAK.out]
        refine HC.out.mono ?_
        rintro e w3 ⟨rfl, ⟨s, h2, h3⟩, h4⟩
        have HI3 : Hid (∃ m, Sim ltI l m ∧ Blocks ltI (2 * k) 0 m ∧ Row w3 W0.heap.size g N c m) := Lib.hid (by
         have := half_last (l := l) (m := m) (s := s) (k := k) (t := t) (a := a) (by omega) HT.out (by rw [HML.out]; omega) (by rw [HML.out]; omega) HH.out (by rw [HML.out]; exact h3)
         rw [HML.out] at this
         exact ⟨_, this.1, this.2, h2⟩)
        have HG3 := Lib.hid (grown_trans HG.out h4)
        clear h2 h3 h4 HC HR HH HG HT HML HAK
        go_wp2
        go_roundg (go - 1)
        case measure => exact hgo1
        case rel => exact ⟨2 * k, by go_num, by omega, by omega, by omega, HI3, HG3⟩
       ·
        have hmI : ¬ (a : Int) + (k : Int) < (N : Int) := by omega
        have HI3 : Hid (∃ m, Sim ltI l m ∧ Blocks ltI (2 * k) 0 m ∧ Row wr W0.heap.size g N c m) := Lib.hid ⟨m, HH.out.sim, half_one (by omega) HT.out (by rw [HML.out]; omega) HH.out, HR.out⟩
        clear HR HH HT HML HAK
        go_wp2
        go_roundg (go - 1)
        case measure => exact hgo1
        case rel => exact ⟨2 * k, by go_num, by omega, by omega, by omega, HI3, HG⟩
    ·
     have hkI : ¬ (k : Int) < (N : Int) := by omega
     have HE : Hid (Row wr W0.heap.size g N c (sortP l)) := Lib.hid (by
      obtain ⟨m, h1, h2, h3⟩ := HI.out
      have : m = sortP l := sort_is ⟨h1, h2.whole (by rw [h3.1]; omega)⟩
      rw [← this]; exact h3)
     clear HI
     go_wp2
     go_end0
     exact ⟨rfl, HE.out, HG.out⟩
theorem ssort_any (W0 : World) (hgl : Glob W0) (g N c : Nat) (l : List It) (W : World) (hN : N ≤ 1000000) (hsz : Short l) (hB : Below W0.heap.size W0 W) (h : Row W W0.heap.size g N c l) :
  Calls Tryz.prog 109 #[.slice (some ⟨g, 0, none⟩) N c, .func (.func 110) #[] #[]] W fun e w' => e = .returned (.tuple #[]) ∧ Row w' W0.heap.size g N c (sortP l) ∧ W.grownBy w' (some g) := by
 have HC := Lib.hid (stable_any W0 hgl g N c l W hN hsz hB h)
 clear hgl hsz hB h
 go_enter Tryz.func109, Tryz.ntmps109
 go_wp2_with fail
 refine HC.out.mono ?_
 rintro e w2 ⟨rfl, h2, h3⟩
 have HE := Lib.hid (And.intro h2 h3)
 clear h2 h3
 go_wp2
 go_end0
 exact ⟨rfl, HE.out.1, HE.out.2⟩
/-- The sort of none. -/
theorem ssort_none (c : Nat) (W : World) : Calls Tryz.prog 109 #[.slice none 0 c, .func (.func 110) #[] #[]] W fun e w' => e = .returned (.tuple #[]) ∧ w' = W := by
 have HC : Hid (Calls Tryz.prog 157 #[.slice none 0 c, .int .i64 0, .int .i64 0, .func (.func 110) #[] #[]] W fun e w' => e = .returned (.tuple #[]) ∧ w' = W) := Lib.hid (ins_none (.slice none 0 c) (.func (.func 110) #[] #[]) 0 0 W (by omega) (by omega))
 have HC2 : Hid (Calls Tryz.prog 133 #[.slice none 0 c, .int .i64 0, .func (.func 110) #[] #[]] W fun e w' => e = .returned (.tuple #[]) ∧ w' = W) := Lib.hid (by
  go_enter Tryz.func133, Tryz.ntmps133
  go_wp2
  go_loopg [7, 8] 0 (fun gg va vb wr => va = .int .i64 0 ∧ vb = .int .i64 20 ∧ wr = W)
  case atStart => exact ⟨rfl, rfl, rfl⟩
  case round =>
   obtain ⟨rfl, rfl, rfl⟩ := hrel
   go_wp2_with fail
   refine HC.out.mono ?_
   rintro e w2 ⟨rfl, rfl⟩
   go_wp2
   go_loopg [6, 7, 8, 9] 0 (fun gg vk va vb vm wx => vk = .int .i64 20 ∧ wx = w2)
   case atStart => exact ⟨rfl, rfl⟩
   case round =>
    obtain ⟨rfl, rfl⟩ := hrel
    go_wp2
    go_end0
    exact ⟨rfl, rfl⟩)
 clear HC
 go_enter Tryz.func109, Tryz.ntmps109
 go_wp2_with fail
 refine HC2.out.mono ?_
 rintro e w2 ⟨rfl, rfl⟩
 go_wp2
 go_end0
 exact ⟨rfl, rfl⟩
end Go.Proofs.YtibmfjacfbpfgaaGreatDoor.Sort
