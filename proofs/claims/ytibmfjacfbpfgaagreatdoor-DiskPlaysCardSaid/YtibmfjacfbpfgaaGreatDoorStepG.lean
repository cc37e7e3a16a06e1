/- disk: Clone of texts; a walk in memory. -/
import Derived.Test.YtibmfjacfbpfgaaGreatDoorLawD
import Derived.Test.YtibmfjacfbpfgaaGreatDoorJoinW
import Derived.Test.YtibmfjacfbpfgaaGreatDoorDAt
import Derived.Test.YtibmfjacfbpfgaaGreatDoorTreeQ
set_option maxHeartbeats 32000000
set_option maxRecDepth 100000
set_option linter.unusedVariables false
set_option linter.unusedSimpArgs false
namespace Go.Proofs.YtibmfjacfbpfgaaGreatDoor.StepA
open Go.RowKit YtibmfjacfbpfgaaGreatDoorW PrintWords PrintLast PrintMore NameLaw NameWalk NameRef YtibmfjacfbpfgaaGreatDoor.Item Own TreeLaw SortIns FillLaw RealLaw DoneLaw JoinLaw Join DAt
theorem infoStr : (Tryz.prog.info? 9).map (fun i => (i.zero, i.size, i.bytes)) = some (some (.string ByteArray.empty), 1, 16) := by kernel_rfl
theorem clones_some (l : List ByteArray) (ad : Addr) (c : Nat) (W : World) (hl : Kd.string.C W (some ad) l.length l) (hn : l.length ≤ 1000000) :
  Calls Tryz.prog 95 #[.slice (some ad) l.length c] W fun e w' => ∃ v1, e = .returned v1 ∧ Kd.string.R 9 w' W.heap.size (fun _ => True) v1 l ∧ Below W.heap.size W w' := by
 have q66 : ∀ (w : World) (a : Option Addr) (n c n' c' : Nat), (binOp .eql 61 (.slice a n c) (.slice none n' c')).run Tryz.prog w = .ok (.bool a.isNone) w := fun w a n c n' c' => Lib.run_eql_slice_nil w _ _ a n c n' c' Tryz.underlying61
 have HL := Hi hl;clear hl;go_enter Tryz.func95, Tryz.ntmps95
 go_wp2_with ((with_reducible refine gate_builtin (b := .append) (xs := #[.tmp 5, .tmp 6]) rfl ?_); at_builtin; generalize hmark : wpList _ _ _ _ _ _ = goal)
 rw [← hmark];clear hmark;refine Kd.R_append_rows Kd.string (w0 := W) W.heap.size rfl (.tmp 5) (.tmp 6) 61 9 (.string ByteArray.empty) 16 rfl Tryz.underlying61 infoStr rfl (by decide) (by decide) _ ([] : List ByteArray) l (some ad) l.length c (fun _ => True) (fun _ => False) rfl rfl (Rr := Kd.string.K W) ?aO ?aR ?aP (fun _ hk => hk.elim) (fun _ _ => trivial) ?aB ?aS ?aL ?_
 case aO => exact ⟨fun _ _ => trivial, [], World.ownsRow_made W #[] 0 (Nat.le_refl _) (Nat.zero_le _) rfl, rfl, fun j p hj => by cases hj⟩
 case aR => exact Kd.C_below HL.out (below_one W _)
 case aP => exact fun x cs h => h
 case aB => exact below_one W _
 case aS => exact (below_one W _).size
 case aL => simp; omega
 intro v1 w1 ho hb hg hat
 have HO := Hi ho;have HB := Hi hb
 clear ho hb hg hat
 go_wp2;go_ret;exact ⟨_, rfl, HO.out, HB.out⟩
theorem clones_none (c : Nat) (W : World) : Calls Tryz.prog 95 #[.slice none 0 c] W fun e w' => e = .returned (.slice none 0 0) ∧ w' = W := by
 have q66 : ∀ (w : World) (a : Option Addr) (n c n' c' : Nat), (binOp .eql 61 (.slice a n c) (.slice none n' c')).run Tryz.prog w = .ok (.bool a.isNone) w := fun w a n c n' c' => Lib.run_eql_slice_nil w _ _ a n c n' c' Tryz.underlying61
 go_enter Tryz.func95, Tryz.ntmps95;go_wp2;go_ret;exact ⟨rfl, rfl⟩
theorem clones_any (l : List ByteArray) (A : Option Addr) (c : Nat) (W : World) (hl : Kd.string.C W A l.length l) (hn : l.length ≤ 1000000) :
  Calls Tryz.prog 95 #[.slice A l.length c] W fun e w' => ∃ v1, e = .returned v1 ∧ Kd.string.R 9 w' W.heap.size (fun _ => True) v1 l ∧ Below W.heap.size W w' := by
 cases A with
 | some ad => exact clones_some l ad c W hl hn
 | none =>
  have h0 : l = [] := by
   cases l with
   | nil => rfl
   | cons x t => obtain ⟨ad, e, _⟩ := hl.2.2 (by simp); cases e
  subst h0;refine (clones_none c W).mono ?_;rintro e w' ⟨rfl, rfl⟩;exact ⟨_, rfl, Kd.R_nil _ _ _ _ _, Below.refl _ _⟩
theorem str_at {w : World} {A : Option Addr} {l : List ByteArray} (h : Kd.string.C w A l.length l) {k : Nat} (hk : k < l.length) : ∃ ad, A = some ad ∧ w.cell? (ad.add k) = some (.string l[k]) := by
 obtain ⟨ad, e, hc⟩ := h.2.2 (by omega);obtain ⟨cs, hl, hK, hcell⟩ := hc k _ (List.getElem?_eq_getElem hk);have hK' : cs = [Value.string l[k]] := hK;subst hK';have := hcell 0 _ rfl;exact ⟨ad, e, by simpa [Kd.string, Kd.scalar] using this⟩
theorem joins_any (l : List ByteArray) (v : Value) (n : Nat) (W : World) (h : Kd.string.R 9 W n (fun _ => True) v l) (h1 : 1 ≤ l.length) (hn : l.length ≤ 1000000) (hlen : (Lib.join (l.map (·.data.toList)) [47]).length ≤ 1000000) :
  Calls Tryz.prog 58 #[v, .string ⟨#[47]⟩] W fun e w' => e = .returned (.string ⟨(Lib.join (l.map (·.data.toList)) [47]).toArray⟩) ∧ Below W.heap.size W w' := by
 obtain ⟨A, c, rfl, hc, hC⟩ := Kd.R_reads h;obtain ⟨ad, rfl, _⟩ := str_at hC (k := 0) (by omega)
 obtain ⟨g, rfl⟩ : ∃ g, ad = ⟨g, 0, none⟩ := by
  obtain ⟨inner, hl, hown⟩ := Kd.R_own h
  rcases hown with ⟨hv, h0⟩ | ⟨g, cap, cur, hv, _⟩
  ·
   cases hv
  injection hv with hv _ _
  injection hv with hv
  exact ⟨g, hv⟩
 refine join_any g 0 c l ⟨#[47]⟩ W (fun j x hx => ?_) (Kd.R_lt h g rfl) h1 (by omega) hc (by show (Lib.join (l.map (·.data.toList)) [47]).length ≤ _; omega);have hj := (List.getElem?_eq_some_iff.1 hx).1;obtain ⟨ad, e, hc2⟩ := str_at hC hj;injection e with e
 subst e;rw [(List.getElem?_eq_some_iff.1 hx).2] at hc2;rw [Addr.add_lit] at hc2;exact hc2
structure WAt (W0 W : World) (bw b : Nat) (v : Value) (w : Wk) : Prop where
 blk : W.heap[bw]? = some (.cells #[.pointer (some ⟨b, 0, none⟩), v, .int .i64 w.2.1, .int .i64 w.2.2] 102 (0, 0))
 row : Kd.string.R 9 W W0.heap.size (fun _ => True) v (partsT w.1)
 nb : W0.heap.size ≤ bw
 low : Below W0.heap.size W0 W
structure Keeps (bw : Nat) (W : World) (v : Value) (w' : World) (v' : Value) : Prop where
 size : W.heap.size ≤ w'.heap.size
 block : ∀ k, k < W.heap.size → k ≠ bw → some k ≠ v.ownBlock → w'.heap[k]? = W.heap[k]?
 own : v'.ownBlock = v.ownBlock ∨ v'.ownBlock = none ∨ ∃ g, v'.ownBlock = some g ∧ W.heap.size ≤ g
section
variable {W0 W W1 W2 : World} {bw b : Nat} {v v1 v2 : Value} {w w1 : Wk}
theorem Keeps.refl (bw : Nat) (W : World) (v : Value) : Keeps bw W v W v := ⟨Nat.le_refl _, fun _ _ _ _ => rfl, .inl rfl⟩
theorem Keeps.trans (h : Keeps bw W v W1 v1) (k : Keeps bw W1 v1 W2 v2) : Keeps bw W v W2 v2 := by
 refine ⟨Nat.le_trans h.size k.size, fun j hj h1 h2 => ?_, ?_⟩
 ·
  rw [← h.block j hj h1 h2];refine k.block j (Nat.lt_of_lt_of_le hj h.size) h1 (fun e => ?_)
  rcases h.own with o | o | ⟨g, o, hg⟩
  ·
   exact h2 (by rw [← o]; exact e)
  ·
   rw [o] at e; cases e
  rw [o] at e; injection e with e; omega
 rcases k.own with o | o | ⟨g, o, hg⟩
 ·
  rcases h.own with p | p | ⟨g, p, hg⟩
  ·
   exact .inl (o.trans p)
  ·
   exact .inr (.inl (o.trans p))
  exact .inr (.inr ⟨g, o.trans p, hg⟩)
 ·
  exact .inr (.inl o)
 exact .inr (.inr ⟨g, o, Nat.le_trans h.size hg⟩)
theorem Keeps.below (bw : Nat) (v : Value) (hb : Below W.heap.size W W1) : Keeps bw W v W1 v := ⟨hb.size, fun k hk _ _ => hb.block k hk, .inl rfl⟩
theorem WAt.lt (h : WAt W0 W bw b v w) : bw < W.heap.size := (Array.getElem?_eq_some_iff.1 h.blk).1
theorem WAt.below (h : WAt W0 W bw b v w) (hb : Below W.heap.size W W1) : WAt W0 W1 bw b v w := ⟨(hb.block bw h.lt).trans h.blk, Kd.R_below h.row hb, h.nb, h.low.trans (hb.mono h.low.size)⟩
theorem WAt.c0 (h : WAt W0 W bw b v w) : W.cell? ⟨bw, 0, none⟩ = some (.pointer (some ⟨b, 0, none⟩)) := by rw [cell_of h.blk]; rfl
theorem WAt.c1 (h : WAt W0 W bw b v w) : W.cell? ⟨bw, 1, none⟩ = some v := by rw [cell_of h.blk]; rfl
theorem WAt.c2 (h : WAt W0 W bw b v w) : W.cell? ⟨bw, 2, none⟩ = some (.int .i64 w.2.1) := by rw [cell_of h.blk]; rfl
theorem WAt.c3 (h : WAt W0 W bw b v w) : W.cell? ⟨bw, 3, none⟩ = some (.int .i64 w.2.2) := by rw [cell_of h.blk]; rfl
theorem WAt.fz (h : WAt W0 W bw b v w) (j : Nat) : W.frozen? ⟨bw, j, none⟩ = false := frozen_of h.blk j
theorem low_set (h : WAt W0 W bw b v w) (j : Nat) (u : Value) : Below W0.heap.size W0 (W.setCell ⟨bw, j, none⟩ u) := below_grown h.low (Nat.le_refl _) (set_grown W bw j u) (fun x hx => by injection hx with hx; rw [← hx]; exact h.nb)
theorem keeps_set (W : World) (bw : Nat) (v : Value) (j : Nat) (u : Value) : Keeps bw W v (W.setCell ⟨bw, j, none⟩ u) v := ⟨(set_grown W bw j u).size, fun k hk h1 _ => (set_grown W bw j u).block k hk (fun e => h1 (by injection e)), .inl rfl⟩
theorem WAt.links (h : WAt W0 W bw b v w) (k : Nat) : WAt W0 (W.setCell ⟨bw, 2, none⟩ (.int .i64 k)) bw b v (w.1, k, w.2.2) := ⟨blk_put h.blk 2 _ rfl, Kd.R_set h.row h.blk (by decide) 2 _, h.nb, low_set h 2 _⟩
theorem WAt.err (h : WAt W0 W bw b v w) (e : Int) : WAt W0 (W.setCell ⟨bw, 3, none⟩ (.int .i64 e)) bw b v (w.1, w.2.1, e) := ⟨blk_put h.blk 3 _ rfl, Kd.R_set h.row h.blk (by decide) 3 _, h.nb, low_set h 3 _⟩
theorem WAt.place (h : WAt W0 W bw b v w) {u : ByteArray} (hr : Kd.string.R 9 W W0.heap.size (fun _ => True) v1 (partsT u)) : WAt W0 (W.setCell ⟨bw, 1, none⟩ v1) bw b v1 (u, w.2.1, w.2.2) := ⟨blk_put h.blk 1 _ rfl, Kd.R_set hr h.blk (by decide) 1 _, h.nb, low_set h 1 _⟩
theorem WAt.appended (h : WAt W0 W bw b v w) (hg : W.grownBy W1 v.ownBlock) (hl : Below W0.heap.size W0 W1) {u1 : ByteArray} (hr : Kd.string.R 9 W1 W0.heap.size (fun _ => True) v1 (partsT u1)) (ha : v1.ownBlock = v.ownBlock ∨ ∃ g, v1.ownBlock = some g ∧ W.heap.size ≤ g) :
  W1.frozen? ⟨bw, 1, none⟩ = false ∧ W1.cell? ⟨bw, 1, none⟩ = some v ∧ WAt W0 (W1.setCell ⟨bw, 1, none⟩ v1) bw b v1 (u1, w.2.1, w.2.2) ∧ Keeps bw W v (W1.setCell ⟨bw, 1, none⟩ v1) v1 := by
 have at1 : W1.heap[bw]? = some (.cells #[.pointer (some ⟨b, 0, none⟩), v, .int .i64 w.2.1, .int .i64 w.2.2] 102 (0, 0)) := (hg.block bw h.lt (Kd.R_ne h.row h.blk (by decide))).trans h.blk;refine ⟨frozen_of at1 1, by rw [cell_of at1]; rfl, ⟨blk_put at1 1 _ rfl, Kd.R_set hr at1 (by decide) 1 _, h.nb, below_grown hl (Nat.le_refl _) (set_grown W1 bw 1 v1) (fun x hx => by injection hx with hx; rw [← hx]; exact h.nb)⟩, ⟨Nat.le_trans hg.size (set_grown W1 bw 1 v1).size, fun k hk h1 h2 => ?_, ha.imp id .inr⟩⟩;rw [(set_grown W1 bw 1 v1).block k (Nat.lt_of_lt_of_le hk hg.size) (fun e => h1 (by injection e))];exact hg.block k hk h2
theorem WAt.grown (h : WAt W0 W bw b v w) (hg : W.grownBy W1 v.ownBlock) (hb : Below W0.heap.size W0 W1) : W1.heap[bw]? = W.heap[bw]? := hg.block bw h.lt (Kd.R_ne h.row h.blk (by decide))
end
theorem partsT_parent {u : ByteArray} (h : Full u) : partsT (parentT u) = (partsT u).take ((partsT u).length - 1) := by
 unfold partsT;rw [parent_parts h, List.length_map, ← List.map_take, List.dropLast_eq_take]
theorem partsT_join {u p : ByteArray} (hp : p.data.toList ≠ []) (hf : ∀ c ∈ p.data.toList, c ≠ 47) : partsT (joinS u p) = partsT u ++ [p] := by
 unfold partsT;rw [join_parts hp hf, List.map_append];rfl
end Go.Proofs.YtibmfjacfbpfgaaGreatDoor.StepA
namespace Go.Proofs.YtibmfjacfbpfgaaGreatDoor.Step
open Go.RowKit YtibmfjacfbpfgaaGreatDoorW PrintWords PrintLast PrintMore NameLaw NameWalk NameRef YtibmfjacfbpfgaaGreatDoor.Item Own TreeLaw SortIns FillLaw RealLaw DoneLaw KeepLaw JoinLaw Join DAt StepA
theorem walk_stay {s : List It} {n : Nat} {w : Wk} {p : ByteArray} (h : w.2.2 ≠ 0 ∨ p.data.toList = [] ∨ p = dot1) : walkR s n w p = w := by cases n <;> (unfold walkR; rw [if_pos h])
theorem walk_up {s : List It} {n : Nat} {w : Wk} {p : ByteArray} (h : ¬ (w.2.2 ≠ 0 ∨ p.data.toList = [] ∨ p = dot1)) (h1 : p = dot2) : walkR s n w p = (parentT w.1, w.2.1, w.2.2) := by cases n <;> (unfold walkR; rw [if_neg h, if_pos h1])
theorem walk_none {s : List It} {n : Nat} {w : Wk} {p : ByteArray} (h : ¬ (w.2.2 ≠ 0 ∨ p.data.toList = [] ∨ p = dot1)) (h1 : ¬ p = dot2) (h2 : kindOf s (joinS w.1 p) = 0) : walkR s n w p = (w.1, w.2.1, 40) := by cases n <;> (unfold walkR; rw [if_neg h, if_neg h1, if_pos h2])
theorem walk_file {s : List It} {n : Nat} {w : Wk} {p : ByteArray} (h : ¬ (w.2.2 ≠ 0 ∨ p.data.toList = [] ∨ p = dot1)) (h1 : ¬ p = dot2) (h2 : kindOf s (joinS w.1 p) = 2) : walkR s n w p = (w.1, w.2.1, 42) := by cases n <;> (unfold walkR; rw [if_neg h, if_neg h1, if_neg (by rw [h2]; decide), if_pos h2])
theorem walk_dir {s : List It} {n : Nat} {w : Wk} {p : ByteArray} (h : ¬ (w.2.2 ≠ 0 ∨ p.data.toList = [] ∨ p = dot1)) (h1 : ¬ p = dot2) (h2 : kindOf s (joinS w.1 p) = 1) : walkR s n w p = (joinS w.1 p, w.2.1, w.2.2) := by cases n <;> (unfold walkR; rw [if_neg h, if_neg h1, if_neg (by rw [h2]; decide), if_neg (by rw [h2]; decide), if_pos h2])
theorem walk_loop {s : List It} {n : Nat} {w : Wk} {p : ByteArray} (h : ¬ (w.2.2 ≠ 0 ∨ p.data.toList = [] ∨ p = dot1)) (h1 : ¬ p = dot2) (h2 : kindOf s (joinS w.1 p) = 3) (h3 : 16 < w.2.1 + 1) : walkR s n w p = (w.1, w.2.1 + 1, 44) := by cases n <;> (unfold walkR; rw [if_neg h, if_neg h1, if_neg (by rw [h2]; decide), if_neg (by rw [h2]; decide), if_neg (by rw [h2]; decide), if_pos h2, if_pos h3])
theorem walk_link {s : List It} {n : Nat} {w : Wk} {p : ByteArray} (h : ¬ (w.2.2 ≠ 0 ∨ p.data.toList = [] ∨ p = dot1)) (h1 : ¬ p = dot2) (h2 : kindOf s (joinS w.1 p) = 3) (h3 : ¬ 16 < w.2.1 + 1) : walkR s (n + 1) w p = (splitT (dataAt s (joinS w.1 p))).foldl (walkR s n) (if (dataAt s (joinS w.1 p)).data.toList.head? = some 47 then ⟨#[]⟩ else w.1, w.2.1 + 1, w.2.2) := by unfold walkR; rw [if_neg h, if_neg h1, if_neg (by rw [h2]; decide), if_neg (by rw [h2]; decide), if_neg (by rw [h2]; decide), if_pos h2, if_neg h3]
theorem walk_else {s : List It} {n : Nat} {w : Wk} {p : ByteArray} (h : ¬ (w.2.2 ≠ 0 ∨ p.data.toList = [] ∨ p = dot1)) (h1 : ¬ p = dot2) (h2 : kindOf s (joinS w.1 p) ≠ 0) (h3 : kindOf s (joinS w.1 p) ≠ 2) (h4 : kindOf s (joinS w.1 p) ≠ 1) (h5 : kindOf s (joinS w.1 p) ≠ 3) : walkR s n w p = w := by cases n <;> (unfold walkR; rw [if_neg h, if_neg h1, if_neg h2, if_neg h3, if_neg h4, if_neg h5])
theorem dot_is (p d : ByteArray) : (p.toList == d.toList) = decide (p = d) := toList_inj p d
theorem head_is (l : List UInt8) : Lib.hasPrefix l [47] = decide (l.head? = some 47) := by
 cases l with
 | nil => rfl
 | cons c l =>
  by_cases h : c = 47
  ·
   subst h; simp [Lib.hasPrefix, List.isPrefixOf]
  have h2 : (47 == c) = false := beq_eq_false_iff_ne.2 (fun e => h e.symm);simp [Lib.hasPrefix, List.isPrefixOf, h2, h]
theorem data_here {s : List It} (hs : Strict s) {p : ByteArray} (h : hereP s p = true) : dataAt s p = (s[placeP s p]'(here_iff.1 h).1).2.2.2.2.2.2.2 := by
 unfold dataAt;rw [here_find hs, dif_pos h];rfl
theorem link_at {s : List It} (hs : Strict s) {p : ByteArray} (h : hereP s p = true) : ∃ (r : Nat) (hr : r < s.length), placeP s p = r ∧ dataAt s p = s[r].2.2.2.2.2.2.2 := ⟨_, (here_iff.1 h).1, rfl, data_here hs h⟩
theorem here_kind {s : List It} (hs : Strict s) {p : ByteArray} (hp : p.data.toList ≠ []) (hk : kindOf s p ≠ 0) : hereP s p = true := by
 rw [← kindP_is hs hp] at hk;unfold kindP at hk
 by_cases h : hereP s p = true
 ·
  exact h
 rw [if_neg h] at hk; exact absurd rfl hk
theorem dots_ne : dot1.toList = [46] ∧ dot2.toList = [46, 46] := by
 refine ⟨?_, ?_⟩ <;> (rw [Lib.toList_data]; rfl)
theorem fold_mono {s : List It} {n : Nat} (h : ∀ (w : Wk) (p : ByteArray), w.2.1 ≤ (walkR s n w p).2.1) : ∀ (l : List ByteArray) (w : Wk), w.2.1 ≤ (l.foldl (walkR s n) w).2.1
 | [], w => Nat.le_refl _
 | p :: l, w => Nat.le_trans (h w p) (fold_mono h l _)
theorem walk_mono (s : List It) : ∀ (n : Nat) (w : Wk) (p : ByteArray), w.2.1 ≤ (walkR s n w p).2.1
 | n, w, p => by
  by_cases h0 : w.2.2 ≠ 0 ∨ p.data.toList = [] ∨ p = dot1
  ·
   rw [walk_stay h0]; exact Nat.le_refl _
  by_cases h1 : p = dot2
  ·
   rw [walk_up h0 h1]; exact Nat.le_refl _
  by_cases k0 : kindOf s (joinS w.1 p) = 0
  ·
   rw [walk_none h0 h1 k0]; exact Nat.le_refl _
  by_cases k2 : kindOf s (joinS w.1 p) = 2
  ·
   rw [walk_file h0 h1 k2]; exact Nat.le_refl _
  by_cases k1 : kindOf s (joinS w.1 p) = 1
  ·
   rw [walk_dir h0 h1 k1]; exact Nat.le_refl _
  by_cases k3 : kindOf s (joinS w.1 p) = 3
  ·
   by_cases h3 : 16 < w.2.1 + 1
   ·
    rw [walk_loop h0 h1 k3 h3]; exact Nat.le_succ _
   match n with
   | 0 =>
    unfold walkR;rw [if_neg h0, if_neg h1, if_neg k0, if_neg k2, if_neg k1, if_pos k3, if_neg h3];exact Nat.le_succ _
   | n + 1 =>
    rw [walk_link h0 h1 k3 h3];exact Nat.le_trans (Nat.le_succ w.2.1) (fold_mono (walk_mono s n) (splitT (dataAt s (joinS w.1 p))) (if (dataAt s (joinS w.1 p)).data.toList.head? = some 47 then ⟨#[]⟩ else w.1, w.2.1 + 1, w.2.2))
  rw [walk_else h0 h1 k0 k2 k1 k3]; exact Nat.le_refl _
theorem fold_ok {s : List It} (hs : ∀ x ∈ s, x.1.size ≤ 9000) (n : Nat) : ∀ (l : List ByteArray) (w : Wk), (∀ p ∈ l, ∀ c ∈ p.data.toList, c ≠ 47) → WOk w → WOk (l.foldl (walkR s n) w)
 | [], w, _, h => h
 | p :: l, w, hf, h => fold_ok hs n l _ (fun q hq => hf q (List.mem_cons_of_mem _ hq)) (walk_ok hs n w p (hf p List.mem_cons_self) h)
theorem splitT_free (d : ByteArray) : ∀ p ∈ splitT d, ∀ c ∈ p.data.toList, c ≠ 47 := by
 intro p hp;unfold splitT at hp;obtain ⟨m, hm, rfl⟩ := List.mem_map.1 hp;exact split_free _ m hm
theorem splitT_le (d : ByteArray) : ∀ p ∈ splitT d, p.size ≤ d.size := by
 intro p hp;unfold splitT at hp;obtain ⟨m, hm, rfl⟩ := List.mem_map.1 hp;have := piece_le _ m hm;rw [len_data] at this
 show m.toArray.size ≤ _
 simpa using this
theorem take_fold {α β : Type} (f : β → α → β) (l : List α) (b : β) {j : Nat} (hj : j < l.length) : (l.take (j + 1)).foldl f b = f ((l.take j).foldl f b) l[j] := by
 rw [List.take_succ_eq_append_getElem hj, List.foldl_append]; rfl
def StepPost (W0 W : World) (bw b : Nat) (v : Value) (r : Wk) : Ending → World → Prop := fun e w' => e = .returned (.tuple #[]) ∧ ∃ v', WAt W0 w' bw b v' r ∧ Keeps bw W v w' v'
structure Shown (W0 : World) (b : Nat) (s : List It) : Prop where
 glob : Glob W0
 cell : ∃ A c, W0.cell? ⟨b, 1, none⟩ = some (.slice A s.length c) ∧ ItemC W0 A s
 blt : b < W0.heap.size
 len : s.length ≤ 1000000
 ord : Strict s
 paths : ∀ x ∈ s, x.1.size ≤ 9000
 data : ∀ x ∈ s, x.2.2.2.2.2.2.2.size ≤ 100000
theorem Shown.short {W0 : World} {b : Nat} {s : List It} (h : Shown W0 b s) : ∀ x ∈ s, x.1.size < 4294967281 := fun x hx => by have := h.paths x hx; omega
def StepAny (s : List It) (n : Nat) : Prop := ∀ (W0 : World) (b : Nat) (w : Wk) (p : ByteArray) (bw : Nat) (v : Value) (W : World), Shown W0 b s → 16 ≤ w.2.1 + n → WOk w → (∀ c ∈ p.data.toList, c ≠ 47) → p.size ≤ 100000 → WAt W0 W bw b v w →
 Calls Tryz.prog 57 #[.pointer (some ⟨bw, 0, none⟩), .string p] W (StepPost W0 W bw b v (walkR s n w p))
theorem step_err (W0 W : World) (b bw : Nat) (v : Value) (u : ByteArray) (k : Nat) (e : Int) (p : ByteArray) (he : e ≠ 0) (hw : WAt W0 W bw b v (u, k, e)) :
  Calls Tryz.prog 57 #[.pointer (some ⟨bw, 0, none⟩), .string p] W (StepPost W0 W bw b v (u, k, e)) := by
 have d3 : W.cell? ⟨bw, 3, none⟩ = some (.int .i64 e) := hw.c3;have q0 : (e == 0) = false := beq_eq_false_iff_ne.2 he;have q1 : (e != 0) = true := bne_iff_ne.2 he;have HW := Hi hw;clear hw;go_enter Tryz.func57, Tryz.ntmps57;go_wp2;go_end0;exact ⟨rfl, v, HW.out, Keeps.refl _ _ _⟩
theorem step_empty (W0 W : World) (b bw : Nat) (v : Value) (u : ByteArray) (k : Nat) (e : Int) (p : ByteArray) (he : e = 0) (hp : p.toList = []) (hw : WAt W0 W bw b v (u, k, e)) :
  Calls Tryz.prog 57 #[.pointer (some ⟨bw, 0, none⟩), .string p] W (StepPost W0 W bw b v (u, k, e)) := by
 have d3 : W.cell? ⟨bw, 3, none⟩ = some (.int .i64 e) := hw.c3;subst he;have q2 : p.toList.isEmpty = true := by rw [hp]; rfl
 have HW := Hi hw;clear hw;go_enter Tryz.func57, Tryz.ntmps57;go_wp2;go_end0;exact ⟨rfl, v, HW.out, Keeps.refl _ _ _⟩
theorem step_dot (W0 W : World) (b bw : Nat) (v : Value) (u : ByteArray) (k : Nat) (e : Int) (p : ByteArray) (he : e = 0) (hp : p.toList = [46]) (hw : WAt W0 W bw b v (u, k, e)) :
  Calls Tryz.prog 57 #[.pointer (some ⟨bw, 0, none⟩), .string p] W (StepPost W0 W bw b v (u, k, e)) := by
 have d3 : W.cell? ⟨bw, 3, none⟩ = some (.int .i64 e) := hw.c3;subst he;have q2 : p.toList.isEmpty = false := by rw [hp]; rfl
 have q3 : (p.toList == [46]) = true := by rw [hp]; rfl
 have HW := Hi hw;clear hw;go_enter Tryz.func57, Tryz.ntmps57;go_wp2;go_end0;exact ⟨rfl, v, HW.out, Keeps.refl _ _ _⟩
theorem step_up (W0 W : World) (b bw : Nat) (v : Value) (u : ByteArray) (k : Nat) (p : ByteArray) (hp : p.toList = [46, 46]) (hu : Full u) (hs : u.size ≤ 9000) (hw : WAt W0 W bw b v (u, k, 0)) :
  Calls Tryz.prog 57 #[.pointer (some ⟨bw, 0, none⟩), .string p] W (StepPost W0 W bw b v (parentT u, k, 0)) := by
 have q2 : p.toList.isEmpty = false := by rw [hp]; rfl
 have q3 : (p.toList == [46]) = false := by rw [hp]; rfl
 have q4 : (p.toList == [46, 46]) = true := by rw [hp]; rfl
 obtain ⟨A, c, rfl, hc, _⟩ := Kd.R_reads hw.row;have hcnt := partsT_count u;have HP := Hi (partsT_parent hu);have hrow : Kd.string.R 9 W W0.heap.size (fun _ => True) (.slice A (partsT u).length c) (partsT u) := hw.row;have hc : (partsT u).length ≤ c := hc;have hr := Kd.R_take hrow (m := (partsT u).length - 1) (by omega);rw [← HP.out] at hr
 have hown : (Value.slice A ((partsT u).length - 1) c).ownBlock = (Value.slice A (partsT u).length c).ownBlock := by cases A <;> rfl
 have hdw : WAt W0 W.drew bw b (.slice A (partsT u).length c) (u, k, 0) := hw.below (below_drew (Below.refl _ _));have hfin := Hi (And.intro (hdw.place (u := parentT u) (v1 := .slice A ((partsT u).length - 1) c) (Kd.R_below hr (below_drew (Below.refl _ _)))) ((Keeps.below bw (.slice A (partsT u).length c) (below_drew (Below.refl W.heap.size W))).trans ⟨(set_grown W.drew bw 1 (.slice A ((partsT u).length - 1) c)).size, fun j hj h1 _ => (set_grown W.drew bw 1 (.slice A ((partsT u).length - 1) c)).block j hj (fun e => h1 (by injection e)), .inl hown⟩));have d1 : W.cell? ⟨bw, 1, none⟩ = some (.slice A (partsT u).length c) := hw.c1;have d3 : W.cell? ⟨bw, 3, none⟩ = some (.int .i64 0) := hw.c3;have z1 : W.drew.frozen? ⟨bw, 1, none⟩ = false := hdw.fz 1;clear hw hdw hr hrow hown HP hu;generalize (partsT u).length = N at *;have hNI : (N : Int) ≤ (c : Int) := by omega
 have hw1 : Go.RowKit.wrap64 ((N : Int) - 1) = (N : Int) - 1 := by unfold Go.RowKit.wrap64; omega
 have hmx : max 0 ((N : Int) - 1) = ((N - 1 : Nat) : Int) := by omega
 have hM : ((N - 1 : Nat) : Int) ≤ (c : Int) := by omega
 have hM2 : N - 1 ≤ c := by omega
 go_enter Tryz.func57, Tryz.ntmps57;go_wp2;have d1 : W.drew.cell? ⟨bw, 1, none⟩ = some (.slice A N c) := d1;refine start_ (n := 16) (S := fun w' => w'.cell? ⟨bw, 1, none⟩ = some (.slice A N c)) (ds := [15]) (bm 16 0) (by kernel_rfl) rfl rfl (d1) (fun hHeld => ?_);refine pure_ (i := 0) (N := some 25) (v := ?_) (a' := ?_) (bm 16 1) rfl rfl (by kernel_rfl) (fun _ _ _ h => h) (Or.inl ⟨by rfl, ?_⟩) ?_ ?_;rotate_left;intro w';go_simp;(with_reducible rfl);rotate_left;simp only [Act.put, nA, nZ, nS, i64_w, i32_w];rfl;refine pure_ (i := 1) (N := some 26) (v := ?_) (a' := ?_) (bm 16 3) rfl rfl (by kernel_rfl) (fun _ _ _ h => h) (Or.inl ⟨by rfl, ?_⟩) ?_ ?_;rotate_left;intro w';go_simp;(with_reducible rfl);rotate_left;simp only [Act.put, nA, nZ, nS, i64_w, i32_w];rfl;refine pure_ (i := 2) (N := some 27) (v := ?_) (a' := ?_) (bm 16 7) rfl rfl (by kernel_rfl) (fun _ _ _ h => h) (Or.inl ⟨by rfl, ?_⟩) ?_ ?_;rotate_left;intro w';go_simp;(with_reducible rfl);rotate_left;simp only [Act.put, nA, nZ, nS, i64_w, i32_w];rfl;refine pure_ (i := 3) (N := some 28) (v := ?_) (a' := ?_) (bm 16 15) rfl rfl (by kernel_rfl) (fun _ _ _ h => h) (Or.inl ⟨by rfl, ?_⟩) ?_ ?_;rotate_left;intro w';go_simp;(with_reducible rfl);rotate_left;simp only [Act.put, nA, nZ, nS, i64_w, i32_w];rfl;refine pure_ (i := 5) (N := some 30) (v := ?_) (a' := ?_) (bm 16 47) rfl rfl (by kernel_rfl) (fun _ _ _ h => h) (Or.inl ⟨by rfl, ?_⟩) ?_ ?_;rotate_left;intro w';go_simp;(with_reducible rfl);rotate_left;simp only [Act.put, nA, nZ, nS, i64_w, i32_w];rfl;refine pure_ (i := 6) (N := some 31) (v := ?_) (a' := ?_) (bm 16 111) rfl rfl (by kernel_rfl) (fun _ _ _ h => h) (Or.inl ⟨by rfl, ?_⟩) ?_ ?_;rotate_left;intro w';go_simp;(with_reducible rfl);rotate_left;simp only [Act.put, nA, nZ, nS, i64_w, i32_w];rfl;refine pure_ (i := 7) (N := some 32) (v := ?_) (a' := ?_) (bm 16 239) rfl rfl (by kernel_rfl) (fun _ _ _ h => h) (Or.inl ⟨by rfl, ?_⟩) ?_ ?_;rotate_left;intro w';go_simp;(with_reducible rfl);rotate_left;simp only [Act.put, nA, nZ, nS, i64_w, i32_w];rfl;refine take_ (i := 4) (N := some 29) (v := ?_) (a' := ?_) (bm 16 255) rfl rfl (by kernel_rfl) (fun _ _ _ h => h) (Or.inl ⟨by rfl, ?_⟩) hHeld ?_ ?_;rotate_left;intro w' s0;go_simp;(with_reducible rfl);rotate_left;simp only [Act.put, nA, nZ, nS, i64_w, i32_w];rfl;refine take_ (i := 8) (N := some 33) (v := ?_) (a' := ?_) (bm 16 511) rfl rfl (by kernel_rfl) (fun _ _ _ h => h) (Or.inl ⟨by rfl, ?_⟩) hHeld ?_ ?_;rotate_left;intro w' s0;go_simp;(with_reducible rfl);rotate_left;simp only [Act.put, nA, nZ, nS, i64_w, i32_w];rfl;refine pure_ (i := 9) (N := some 34) (v := ?_) (a' := ?_) (bm 16 1023) rfl rfl (by kernel_rfl) (fun _ _ _ h => h) (Or.inl ⟨by rfl, ?_⟩) ?_ ?_;rotate_left;intro w';go_simp;(with_reducible rfl);rotate_left;simp only [Act.put, nA, nZ, nS, i64_w, i32_w];rfl;refine pure_ (i := 10) (N := some 35) (v := ?_) (a' := ?_) (bm 16 2047) rfl rfl (by kernel_rfl) (fun _ _ _ h => h) (Or.inl ⟨by rfl, ?_⟩) ?_ ?_;rotate_left;intro w';go_simp;(with_reducible rfl);rotate_left;simp only [Act.put, nA, nZ, nS, i64_w, i32_w];rfl
 refine pure_ (i := 11) (N := some 36) (v := ?_) (a' := ?_) (bm 16 4095) rfl rfl (by kernel_rfl) (fun _ _ _ h => h) (Or.inl ⟨by rfl, ?_⟩) ?_ ?_;rotate_left;intro w';go_simp;(with_reducible rfl);rotate_left;simp only [Act.put, nA, nZ, nS, i64_w, i32_w];rfl;refine pure_ (i := 12) (N := some 37) (v := ?_) (a' := ?_) (bm 16 8191) rfl rfl (by kernel_rfl) (fun _ _ _ h => h) (Or.inl ⟨by rfl, ?_⟩) ?_ ?_;rotate_left;intro w';go_simp;(with_reducible rfl);rotate_left;simp only [Act.put, nA, nZ, nS, i64_w, i32_w];rfl;refine pure_ (i := 13) (N := some 38) (v := ?_) (a' := ?_) (bm 16 16383) rfl rfl (by kernel_rfl) (fun _ _ _ h => h) (Or.inl ⟨by rfl, ?_⟩) ?_ ?_;rotate_left;intro w';go_simp;(with_reducible rfl);rotate_left;simp only [Act.put, nA, nZ, nS, i64_w, i32_w];rfl;refine pure_ (i := 14) (N := some 39) (v := ?_) (a' := ?_) (bm 16 32767) rfl rfl (by kernel_rfl) (fun _ _ _ h => h) (Or.inl ⟨by rfl, ?_⟩) ?_ ?_;rotate_left;intro w';go_simp;(with_reducible rfl);rotate_left;simp only [Act.put, nA, nZ, nS, i64_w, i32_w];rfl;refine last_ (i := 15) (N := none) (bm 16 65535) rfl rfl (by kernel_rfl) (by decide) (fun K hK => ?_);refine skip_ (w1 := ?_) (by rfl) rfl ?_ ?_;rotate_left
 ·
  go_simp;rfl
 refine hK.out _ _ ?_;clear hK K;refine done_ (by kernel_rfl) ?_;go_wp2;go_end0;exact ⟨rfl, _, hfin.out.1, hfin.out.2⟩
theorem step_none (s : List It) (W0 W : World) (b bw : Nat) (v : Value) (u : ByteArray) (k : Nat) (p : ByteArray) (hS : Shown W0 b s) (hp : p.data.toList ≠ []) (hd1 : ¬ p = dot1) (hd2 : ¬ p = dot2) (hf : ∀ c ∈ p.data.toList, c ≠ 47) (hps : p.size ≤ 100000) (hu : WOk (u, k, 0)) (hw : WAt W0 W bw b v (u, k, 0)) (hK : kindOf s (joinS u p) = 0) :
  Calls Tryz.prog 57 #[.pointer (some ⟨bw, 0, none⟩), .string p] W (StepPost W0 W bw b v (u, k, 40)) := by
 have q2 : p.toList.isEmpty = false := by rw [Lib.toList_data]; exact List.isEmpty_eq_false_iff.2 hp
 have q3 : (p.toList == [46]) = false := by rw [← dots_ne.1, dot_is]; exact decide_eq_false hd1
 have q4 : (p.toList == [46, 46]) = false := by rw [← dots_ne.2, dot_is]; exact decide_eq_false hd2
 obtain ⟨A, c, rfl, hc, hC⟩ := Kd.R_reads hw.row;have hcnt := partsT_count u;have hus : u.size ≤ 9000 := hu.size;have HCL := Hi (clones_any (partsT u) A c W hC (by show (partsT u).length ≤ _; omega))
 have HKN : Hid (∀ W', Below W0.heap.size W0 W' → Calls Tryz.prog 59 #[.pointer (some ⟨b, 0, none⟩), .string (joinS u p)] W' fun e w' => e = .returned (.int .i64 (kindOf s (joinS u p))) ∧ Below W'.heap.size W' w') := Hi (fun W' hW' => by
  obtain ⟨As, cs, hcell, hI⟩ := hS.cell;have hjs := join_size u p
  exact kind_any b s As cs (joinS u p) W' (hS.glob.below hW') (pw_cell_below hW' hcell) (Kd.C_below hI hW') hS.len hS.ord hS.short (by omega))
 have HJ : Hid (∀ v1 W' n, Kd.string.R 9 W' n (fun _ => True) v1 (partsT u ++ [p]) → Calls Tryz.prog 58 #[v1, .string ⟨#[47]⟩] W' fun e w' => e = .returned (.string (joinS u p)) ∧ Below W'.heap.size W' w') := Hi (fun v1 W' n h => by
  have h2 := joins_any (partsT u ++ [p]) v1 n W' h (by simp) (by simp; omega) (by rw [join_glue, len_data]; have := join_size u p; omega);rw [join_is] at h2
  exact h2)
 have HW := Hi hw;have d0 : W.cell? ⟨bw, 0, none⟩ = some (.pointer (some ⟨b, 0, none⟩)) := hw.c0;have d1 : W.cell? ⟨bw, 1, none⟩ = some (.slice A (partsT u).length c) := hw.c1;have d3 : W.cell? ⟨bw, 3, none⟩ = some (.int .i64 0) := hw.c3;have HLOW := Hi hw.low;clear hw hC hd1 hd2;go_enter Tryz.func57, Tryz.ntmps57
 go_wp2_with fail
 refine HCL.out.mono ?_;rintro e w1 ⟨v1, rfl, hr1, hb1⟩;obtain ⟨A1, c1, rfl⟩ := Kd.R_slice hr1;have HR1 := Hi hr1;have HB1 := Hi hb1;clear hr1 hb1 HCL
 go_wp2_with ((with_reducible refine gate_builtin (b := .append) (xs := #[.tmp 44, .tmp 46]) rfl ?_); at_builtin; refine Kd.R_append Kd.string (w0 := W) W.heap.size rfl (.tmp 44) (.tmp 46) 61 9 (.string ByteArray.empty) 16 rfl Tryz.underlying61 infoStr rfl (by decide) (by decide) (.slice A1 (partsT u).length c1) (partsT u) p [.string p] (fun _ => True) (fun _ => False) rfl (by first | rfl | (simp; done) | (simp; rfl)) ?aP (fun _ hk => hk.elim) ?aF ?aO ?aB ?aS ?aL ?_; skip)
 case aP => exact rfl
 case aB => exact HB1.out
 case aF => exact (fun _ _ => trivial)
 case aO => exact HR1.out
 case aS => exact HB1.out.size
 case aL => first | omega | (simp; done) | (simp; omega)
 intro va w2 ho hb5 hg5 hat5;have HR2 := Hi ho;have HB2 := Hi hb5;clear ho hb5 hg5 hat5;obtain ⟨A2, c2, rfl⟩ := Kd.R_slice HR2.out;have HJ2 := HJ.out _ _ _ HR2.out;rw [List.length_append, List.length_singleton] at HJ2;have HJ2 := Hi HJ2
 go_wp2_with fail
 with_reducible refine HJ2.out.mono ?_
 rintro e w3 ⟨rfl, hb3⟩;have HB3 := Hi (below_next HB2.out hb3);have d0 := pw_cell_below HB3.out d0;clear hb3 HB1 HB2 HR1 HR2 HJ HJ2;have HL3 := Hi (HLOW.out.trans (HB3.out.mono HLOW.out.size))
 go_wp2_with fail
 refine (HKN.out _ HL3.out).mono ?_;rintro e w4 ⟨rfl, hb4⟩;have HB4 := Hi (below_next HB3.out hb4);have HW4 := Hi (HW.out.below HB4.out);have HKP := Hi (Keeps.below bw (.slice A (partsT u).length c) HB4.out);have d0 : w4.cell? ⟨bw, 0, none⟩ = some (.pointer (some ⟨b, 0, none⟩)) := HW4.out.c0;have d1 : w4.cell? ⟨bw, 1, none⟩ = some (.slice A (partsT u).length c) := HW4.out.c1;have d2 : w4.cell? ⟨bw, 2, none⟩ = some (.int .i64 k) := HW4.out.c2;have d3 : w4.cell? ⟨bw, 3, none⟩ = some (.int .i64 0) := HW4.out.c3;have z1 : w4.frozen? ⟨bw, 1, none⟩ = false := HW4.out.fz 1;have z2 : w4.frozen? ⟨bw, 2, none⟩ = false := HW4.out.fz 2;have z3 : w4.frozen? ⟨bw, 3, none⟩ = false := HW4.out.fz 3;clear hb4 HB3 HL3 HKN HW;rw [hK];have HF := Hi (And.intro (HW4.out.err 40) (HKP.out.trans (keeps_set w4 bw _ 3 (.int .i64 40))));go_wp2;go_end0;exact ⟨rfl, _, HF.out.1, HF.out.2⟩
theorem step_file (s : List It) (W0 W : World) (b bw : Nat) (v : Value) (u : ByteArray) (k : Nat) (p : ByteArray) (hS : Shown W0 b s) (hp : p.data.toList ≠ []) (hd1 : ¬ p = dot1) (hd2 : ¬ p = dot2) (hf : ∀ c ∈ p.data.toList, c ≠ 47) (hps : p.size ≤ 100000) (hu : WOk (u, k, 0)) (hw : WAt W0 W bw b v (u, k, 0)) (hK : kindOf s (joinS u p) = 2) :
  Calls Tryz.prog 57 #[.pointer (some ⟨bw, 0, none⟩), .string p] W (StepPost W0 W bw b v (u, k, 42)) := by
 have q2 : p.toList.isEmpty = false := by rw [Lib.toList_data]; exact List.isEmpty_eq_false_iff.2 hp
 have q3 : (p.toList == [46]) = false := by rw [← dots_ne.1, dot_is]; exact decide_eq_false hd1
 have q4 : (p.toList == [46, 46]) = false := by rw [← dots_ne.2, dot_is]; exact decide_eq_false hd2
 obtain ⟨A, c, rfl, hc, hC⟩ := Kd.R_reads hw.row;have hcnt := partsT_count u;have hus : u.size ≤ 9000 := hu.size;have HCL := Hi (clones_any (partsT u) A c W hC (by show (partsT u).length ≤ _; omega))
 have HKN : Hid (∀ W', Below W0.heap.size W0 W' → Calls Tryz.prog 59 #[.pointer (some ⟨b, 0, none⟩), .string (joinS u p)] W' fun e w' => e = .returned (.int .i64 (kindOf s (joinS u p))) ∧ Below W'.heap.size W' w') := Hi (fun W' hW' => by
  obtain ⟨As, cs, hcell, hI⟩ := hS.cell;have hjs := join_size u p
  exact kind_any b s As cs (joinS u p) W' (hS.glob.below hW') (pw_cell_below hW' hcell) (Kd.C_below hI hW') hS.len hS.ord hS.short (by omega))
 have HJ : Hid (∀ v1 W' n, Kd.string.R 9 W' n (fun _ => True) v1 (partsT u ++ [p]) → Calls Tryz.prog 58 #[v1, .string ⟨#[47]⟩] W' fun e w' => e = .returned (.string (joinS u p)) ∧ Below W'.heap.size W' w') := Hi (fun v1 W' n h => by
  have h2 := joins_any (partsT u ++ [p]) v1 n W' h (by simp) (by simp; omega) (by rw [join_glue, len_data]; have := join_size u p; omega);rw [join_is] at h2
  exact h2)
 have HW := Hi hw;have d0 : W.cell? ⟨bw, 0, none⟩ = some (.pointer (some ⟨b, 0, none⟩)) := hw.c0;have d1 : W.cell? ⟨bw, 1, none⟩ = some (.slice A (partsT u).length c) := hw.c1;have d3 : W.cell? ⟨bw, 3, none⟩ = some (.int .i64 0) := hw.c3;have HLOW := Hi hw.low;clear hw hC hd1 hd2;go_enter Tryz.func57, Tryz.ntmps57
 go_wp2_with fail
 refine HCL.out.mono ?_;rintro e w1 ⟨v1, rfl, hr1, hb1⟩;obtain ⟨A1, c1, rfl⟩ := Kd.R_slice hr1;have HR1 := Hi hr1;have HB1 := Hi hb1;clear hr1 hb1 HCL
 go_wp2_with ((with_reducible refine gate_builtin (b := .append) (xs := #[.tmp 44, .tmp 46]) rfl ?_); at_builtin; refine Kd.R_append Kd.string (w0 := W) W.heap.size rfl (.tmp 44) (.tmp 46) 61 9 (.string ByteArray.empty) 16 rfl Tryz.underlying61 infoStr rfl (by decide) (by decide) (.slice A1 (partsT u).length c1) (partsT u) p [.string p] (fun _ => True) (fun _ => False) rfl (by first | rfl | (simp; done) | (simp; rfl)) ?aP (fun _ hk => hk.elim) ?aF ?aO ?aB ?aS ?aL ?_; skip)
 case aP => exact rfl
 case aB => exact HB1.out
 case aF => exact (fun _ _ => trivial)
 case aO => exact HR1.out
 case aS => exact HB1.out.size
 case aL => first | omega | (simp; done) | (simp; omega)
 intro va w2 ho hb5 hg5 hat5;have HR2 := Hi ho;have HB2 := Hi hb5;clear ho hb5 hg5 hat5;obtain ⟨A2, c2, rfl⟩ := Kd.R_slice HR2.out;have HJ2 := HJ.out _ _ _ HR2.out;rw [List.length_append, List.length_singleton] at HJ2;have HJ2 := Hi HJ2
 go_wp2_with fail
 with_reducible refine HJ2.out.mono ?_
 rintro e w3 ⟨rfl, hb3⟩;have HB3 := Hi (below_next HB2.out hb3);have d0 := pw_cell_below HB3.out d0;clear hb3 HB1 HB2 HR1 HR2 HJ HJ2;have HL3 := Hi (HLOW.out.trans (HB3.out.mono HLOW.out.size))
 go_wp2_with fail
 refine (HKN.out _ HL3.out).mono ?_;rintro e w4 ⟨rfl, hb4⟩;have HB4 := Hi (below_next HB3.out hb4);have HW4 := Hi (HW.out.below HB4.out);have HKP := Hi (Keeps.below bw (.slice A (partsT u).length c) HB4.out);have d0 : w4.cell? ⟨bw, 0, none⟩ = some (.pointer (some ⟨b, 0, none⟩)) := HW4.out.c0;have d1 : w4.cell? ⟨bw, 1, none⟩ = some (.slice A (partsT u).length c) := HW4.out.c1;have d2 : w4.cell? ⟨bw, 2, none⟩ = some (.int .i64 k) := HW4.out.c2;have d3 : w4.cell? ⟨bw, 3, none⟩ = some (.int .i64 0) := HW4.out.c3;have z1 : w4.frozen? ⟨bw, 1, none⟩ = false := HW4.out.fz 1;have z2 : w4.frozen? ⟨bw, 2, none⟩ = false := HW4.out.fz 2;have z3 : w4.frozen? ⟨bw, 3, none⟩ = false := HW4.out.fz 3;clear hb4 HB3 HL3 HKN HW;rw [hK];have HF := Hi (And.intro (HW4.out.err 42) (HKP.out.trans (keeps_set w4 bw _ 3 (.int .i64 42))));go_wp2;go_end0;exact ⟨rfl, _, HF.out.1, HF.out.2⟩
theorem step_many (s : List It) (W0 W : World) (b bw : Nat) (v : Value) (u : ByteArray) (k : Nat) (p : ByteArray) (hS : Shown W0 b s) (hp : p.data.toList ≠ []) (hd1 : ¬ p = dot1) (hd2 : ¬ p = dot2) (hf : ∀ c ∈ p.data.toList, c ≠ 47) (hps : p.size ≤ 100000) (hu : WOk (u, k, 0)) (hw : WAt W0 W bw b v (u, k, 0)) (hK : kindOf s (joinS u p) = 3) (h16 : 16 < k + 1) :
  Calls Tryz.prog 57 #[.pointer (some ⟨bw, 0, none⟩), .string p] W (StepPost W0 W bw b v (u, k + 1, 44)) := by
 have q2 : p.toList.isEmpty = false := by rw [Lib.toList_data]; exact List.isEmpty_eq_false_iff.2 hp
 have q3 : (p.toList == [46]) = false := by rw [← dots_ne.1, dot_is]; exact decide_eq_false hd1
 have q4 : (p.toList == [46, 46]) = false := by rw [← dots_ne.2, dot_is]; exact decide_eq_false hd2
 obtain ⟨A, c, rfl, hc, hC⟩ := Kd.R_reads hw.row;have hcnt := partsT_count u;have hus : u.size ≤ 9000 := hu.size;have HCL := Hi (clones_any (partsT u) A c W hC (by show (partsT u).length ≤ _; omega))
 have HKN : Hid (∀ W', Below W0.heap.size W0 W' → Calls Tryz.prog 59 #[.pointer (some ⟨b, 0, none⟩), .string (joinS u p)] W' fun e w' => e = .returned (.int .i64 (kindOf s (joinS u p))) ∧ Below W'.heap.size W' w') := Hi (fun W' hW' => by
  obtain ⟨As, cs, hcell, hI⟩ := hS.cell;have hjs := join_size u p
  exact kind_any b s As cs (joinS u p) W' (hS.glob.below hW') (pw_cell_below hW' hcell) (Kd.C_below hI hW') hS.len hS.ord hS.short (by omega))
 have HJ : Hid (∀ v1 W' n, Kd.string.R 9 W' n (fun _ => True) v1 (partsT u ++ [p]) → Calls Tryz.prog 58 #[v1, .string ⟨#[47]⟩] W' fun e w' => e = .returned (.string (joinS u p)) ∧ Below W'.heap.size W' w') := Hi (fun v1 W' n h => by
  have h2 := joins_any (partsT u ++ [p]) v1 n W' h (by simp) (by simp; omega) (by rw [join_glue, len_data]; have := join_size u p; omega);rw [join_is] at h2
  exact h2)
 have HW := Hi hw;have d0 : W.cell? ⟨bw, 0, none⟩ = some (.pointer (some ⟨b, 0, none⟩)) := hw.c0;have d1 : W.cell? ⟨bw, 1, none⟩ = some (.slice A (partsT u).length c) := hw.c1;have d3 : W.cell? ⟨bw, 3, none⟩ = some (.int .i64 0) := hw.c3;have HLOW := Hi hw.low;clear hw hC hd1 hd2;go_enter Tryz.func57, Tryz.ntmps57
 go_wp2_with fail
 refine HCL.out.mono ?_;rintro e w1 ⟨v1, rfl, hr1, hb1⟩;obtain ⟨A1, c1, rfl⟩ := Kd.R_slice hr1;have HR1 := Hi hr1;have HB1 := Hi hb1;clear hr1 hb1 HCL
 go_wp2_with ((with_reducible refine gate_builtin (b := .append) (xs := #[.tmp 44, .tmp 46]) rfl ?_); at_builtin; refine Kd.R_append Kd.string (w0 := W) W.heap.size rfl (.tmp 44) (.tmp 46) 61 9 (.string ByteArray.empty) 16 rfl Tryz.underlying61 infoStr rfl (by decide) (by decide) (.slice A1 (partsT u).length c1) (partsT u) p [.string p] (fun _ => True) (fun _ => False) rfl (by first | rfl | (simp; done) | (simp; rfl)) ?aP (fun _ hk => hk.elim) ?aF ?aO ?aB ?aS ?aL ?_; skip)
 case aP => exact rfl
 case aB => exact HB1.out
 case aF => exact (fun _ _ => trivial)
 case aO => exact HR1.out
 case aS => exact HB1.out.size
 case aL => first | omega | (simp; done) | (simp; omega)
 intro va w2 ho hb5 hg5 hat5;have HR2 := Hi ho;have HB2 := Hi hb5;clear ho hb5 hg5 hat5;obtain ⟨A2, c2, rfl⟩ := Kd.R_slice HR2.out;have HJ2 := HJ.out _ _ _ HR2.out;rw [List.length_append, List.length_singleton] at HJ2;have HJ2 := Hi HJ2
 go_wp2_with fail
 with_reducible refine HJ2.out.mono ?_
 rintro e w3 ⟨rfl, hb3⟩;have HB3 := Hi (below_next HB2.out hb3);have d0 := pw_cell_below HB3.out d0;clear hb3 HB1 HB2 HR1 HR2 HJ HJ2;have HL3 := Hi (HLOW.out.trans (HB3.out.mono HLOW.out.size))
 go_wp2_with fail
 refine (HKN.out _ HL3.out).mono ?_;rintro e w4 ⟨rfl, hb4⟩;have HB4 := Hi (below_next HB3.out hb4);have HW4 := Hi (HW.out.below HB4.out);have HKP := Hi (Keeps.below bw (.slice A (partsT u).length c) HB4.out);have d0 : w4.cell? ⟨bw, 0, none⟩ = some (.pointer (some ⟨b, 0, none⟩)) := HW4.out.c0;have d1 : w4.cell? ⟨bw, 1, none⟩ = some (.slice A (partsT u).length c) := HW4.out.c1;have d2 : w4.cell? ⟨bw, 2, none⟩ = some (.int .i64 k) := HW4.out.c2;have d3 : w4.cell? ⟨bw, 3, none⟩ = some (.int .i64 0) := HW4.out.c3;have z1 : w4.frozen? ⟨bw, 1, none⟩ = false := HW4.out.fz 1;have z2 : w4.frozen? ⟨bw, 2, none⟩ = false := HW4.out.fz 2;have z3 : w4.frozen? ⟨bw, 3, none⟩ = false := HW4.out.fz 3;clear hb4 HB3 HL3 HKN HW;rw [hK];have hk17 : k ≤ 17 := hu.links;have hw2 : Go.RowKit.wrap64 ((k : Int) + 1) = ((k + 1 : Nat) : Int) := by unfold Go.RowKit.wrap64; omega
 have hgt : (16 : Int) < ((k + 1 : Nat) : Int) := by omega
 have HW5 := Hi (HW4.out.links (k + 1));have HF := Hi (And.intro (HW5.out.err 44) (HKP.out.trans ((keeps_set w4 bw _ 2 (.int .i64 ((k + 1 : Nat) : Int))).trans (keeps_set _ bw _ 3 (.int .i64 44)))));have e2 := HW5.out.c2;have y3 := HW5.out.fz 3;go_wp2;go_end0;exact ⟨rfl, _, HF.out.1, HF.out.2⟩
theorem step_else (s : List It) (W0 W : World) (b bw : Nat) (v : Value) (u : ByteArray) (k : Nat) (p : ByteArray) (hS : Shown W0 b s) (hp : p.data.toList ≠ []) (hd1 : ¬ p = dot1) (hd2 : ¬ p = dot2) (hf : ∀ c ∈ p.data.toList, c ≠ 47) (hps : p.size ≤ 100000) (hu : WOk (u, k, 0)) (hw : WAt W0 W bw b v (u, k, 0)) (h0 : kindOf s (joinS u p) ≠ 0) (h2 : kindOf s (joinS u p) ≠ 2) (h1 : kindOf s (joinS u p) ≠ 1) (h3 : kindOf s (joinS u p) ≠ 3) :
  Calls Tryz.prog 57 #[.pointer (some ⟨bw, 0, none⟩), .string p] W (StepPost W0 W bw b v (u, k, 0)) := by
 have q2 : p.toList.isEmpty = false := by rw [Lib.toList_data]; exact List.isEmpty_eq_false_iff.2 hp
 have q3 : (p.toList == [46]) = false := by rw [← dots_ne.1, dot_is]; exact decide_eq_false hd1
 have q4 : (p.toList == [46, 46]) = false := by rw [← dots_ne.2, dot_is]; exact decide_eq_false hd2
 obtain ⟨A, c, rfl, hc, hC⟩ := Kd.R_reads hw.row;have hcnt := partsT_count u;have hus : u.size ≤ 9000 := hu.size;have HCL := Hi (clones_any (partsT u) A c W hC (by show (partsT u).length ≤ _; omega))
 have HKN : Hid (∀ W', Below W0.heap.size W0 W' → Calls Tryz.prog 59 #[.pointer (some ⟨b, 0, none⟩), .string (joinS u p)] W' fun e w' => e = .returned (.int .i64 (kindOf s (joinS u p))) ∧ Below W'.heap.size W' w') := Hi (fun W' hW' => by
  obtain ⟨As, cs, hcell, hI⟩ := hS.cell;have hjs := join_size u p
  exact kind_any b s As cs (joinS u p) W' (hS.glob.below hW') (pw_cell_below hW' hcell) (Kd.C_below hI hW') hS.len hS.ord hS.short (by omega))
 have HJ : Hid (∀ v1 W' n, Kd.string.R 9 W' n (fun _ => True) v1 (partsT u ++ [p]) → Calls Tryz.prog 58 #[v1, .string ⟨#[47]⟩] W' fun e w' => e = .returned (.string (joinS u p)) ∧ Below W'.heap.size W' w') := Hi (fun v1 W' n h => by
  have h2 := joins_any (partsT u ++ [p]) v1 n W' h (by simp) (by simp; omega) (by rw [join_glue, len_data]; have := join_size u p; omega);rw [join_is] at h2
  exact h2)
 have HW := Hi hw;have d0 : W.cell? ⟨bw, 0, none⟩ = some (.pointer (some ⟨b, 0, none⟩)) := hw.c0;have d1 : W.cell? ⟨bw, 1, none⟩ = some (.slice A (partsT u).length c) := hw.c1;have d3 : W.cell? ⟨bw, 3, none⟩ = some (.int .i64 0) := hw.c3;have HLOW := Hi hw.low;clear hw hC hd1 hd2;go_enter Tryz.func57, Tryz.ntmps57
 go_wp2_with fail
 refine HCL.out.mono ?_;rintro e w1 ⟨v1, rfl, hr1, hb1⟩;obtain ⟨A1, c1, rfl⟩ := Kd.R_slice hr1;have HR1 := Hi hr1;have HB1 := Hi hb1;clear hr1 hb1 HCL
 go_wp2_with ((with_reducible refine gate_builtin (b := .append) (xs := #[.tmp 44, .tmp 46]) rfl ?_); at_builtin; refine Kd.R_append Kd.string (w0 := W) W.heap.size rfl (.tmp 44) (.tmp 46) 61 9 (.string ByteArray.empty) 16 rfl Tryz.underlying61 infoStr rfl (by decide) (by decide) (.slice A1 (partsT u).length c1) (partsT u) p [.string p] (fun _ => True) (fun _ => False) rfl (by first | rfl | (simp; done) | (simp; rfl)) ?aP (fun _ hk => hk.elim) ?aF ?aO ?aB ?aS ?aL ?_; skip)
 case aP => exact rfl
 case aB => exact HB1.out
 case aF => exact (fun _ _ => trivial)
 case aO => exact HR1.out
 case aS => exact HB1.out.size
 case aL => first | omega | (simp; done) | (simp; omega)
 intro va w2 ho hb5 hg5 hat5;have HR2 := Hi ho;have HB2 := Hi hb5;clear ho hb5 hg5 hat5;obtain ⟨A2, c2, rfl⟩ := Kd.R_slice HR2.out;have HJ2 := HJ.out _ _ _ HR2.out;rw [List.length_append, List.length_singleton] at HJ2;have HJ2 := Hi HJ2
 go_wp2_with fail
 with_reducible refine HJ2.out.mono ?_
 rintro e w3 ⟨rfl, hb3⟩;have HB3 := Hi (below_next HB2.out hb3);have d0 := pw_cell_below HB3.out d0;clear hb3 HB1 HB2 HR1 HR2 HJ HJ2;have HL3 := Hi (HLOW.out.trans (HB3.out.mono HLOW.out.size))
 go_wp2_with fail
 refine (HKN.out _ HL3.out).mono ?_;rintro e w4 ⟨rfl, hb4⟩;have HB4 := Hi (below_next HB3.out hb4);have HW4 := Hi (HW.out.below HB4.out);have HKP := Hi (Keeps.below bw (.slice A (partsT u).length c) HB4.out);have d0 : w4.cell? ⟨bw, 0, none⟩ = some (.pointer (some ⟨b, 0, none⟩)) := HW4.out.c0;have d1 : w4.cell? ⟨bw, 1, none⟩ = some (.slice A (partsT u).length c) := HW4.out.c1;have d2 : w4.cell? ⟨bw, 2, none⟩ = some (.int .i64 k) := HW4.out.c2;have d3 : w4.cell? ⟨bw, 3, none⟩ = some (.int .i64 0) := HW4.out.c3;have z1 : w4.frozen? ⟨bw, 1, none⟩ = false := HW4.out.fz 1;have z2 : w4.frozen? ⟨bw, 2, none⟩ = false := HW4.out.fz 2;have z3 : w4.frozen? ⟨bw, 3, none⟩ = false := HW4.out.fz 3;clear hb4 HB3 HL3 HKN HW;generalize kindOf s (joinS u p) = K at *;have k0 : (K == 0) = false := beq_eq_false_iff_ne.2 h0;have k1 : (K == 1) = false := beq_eq_false_iff_ne.2 h1;have k2 : (K == 2) = false := beq_eq_false_iff_ne.2 h2;have k3 : (K == 3) = false := beq_eq_false_iff_ne.2 h3;go_wp2;go_end0;exact ⟨rfl, _, HW4.out, HKP.out⟩
theorem step_dir (s : List It) (W0 W : World) (b bw : Nat) (v : Value) (u : ByteArray) (k : Nat) (p : ByteArray) (hS : Shown W0 b s) (hp : p.data.toList ≠ []) (hd1 : ¬ p = dot1) (hd2 : ¬ p = dot2) (hf : ∀ c ∈ p.data.toList, c ≠ 47) (hps : p.size ≤ 100000) (hu : WOk (u, k, 0)) (hw : WAt W0 W bw b v (u, k, 0)) (hK : kindOf s (joinS u p) = 1) :
  Calls Tryz.prog 57 #[.pointer (some ⟨bw, 0, none⟩), .string p] W (StepPost W0 W bw b v (joinS u p, k, 0)) := by
 have q2 : p.toList.isEmpty = false := by rw [Lib.toList_data]; exact List.isEmpty_eq_false_iff.2 hp
 have q3 : (p.toList == [46]) = false := by rw [← dots_ne.1, dot_is]; exact decide_eq_false hd1
 have q4 : (p.toList == [46, 46]) = false := by rw [← dots_ne.2, dot_is]; exact decide_eq_false hd2
 obtain ⟨A, c, rfl, hc, hC⟩ := Kd.R_reads hw.row;have hcnt := partsT_count u;have hus : u.size ≤ 9000 := hu.size;have HCL := Hi (clones_any (partsT u) A c W hC (by show (partsT u).length ≤ _; omega))
 have HKN : Hid (∀ W', Below W0.heap.size W0 W' → Calls Tryz.prog 59 #[.pointer (some ⟨b, 0, none⟩), .string (joinS u p)] W' fun e w' => e = .returned (.int .i64 (kindOf s (joinS u p))) ∧ Below W'.heap.size W' w') := Hi (fun W' hW' => by
  obtain ⟨As, cs, hcell, hI⟩ := hS.cell;have hjs := join_size u p
  exact kind_any b s As cs (joinS u p) W' (hS.glob.below hW') (pw_cell_below hW' hcell) (Kd.C_below hI hW') hS.len hS.ord hS.short (by omega))
 have HJ : Hid (∀ v1 W' n, Kd.string.R 9 W' n (fun _ => True) v1 (partsT u ++ [p]) → Calls Tryz.prog 58 #[v1, .string ⟨#[47]⟩] W' fun e w' => e = .returned (.string (joinS u p)) ∧ Below W'.heap.size W' w') := Hi (fun v1 W' n h => by
  have h2 := joins_any (partsT u ++ [p]) v1 n W' h (by simp) (by simp; omega) (by rw [join_glue, len_data]; have := join_size u p; omega);rw [join_is] at h2
  exact h2)
 have HW := Hi hw;have d0 : W.cell? ⟨bw, 0, none⟩ = some (.pointer (some ⟨b, 0, none⟩)) := hw.c0;have d1 : W.cell? ⟨bw, 1, none⟩ = some (.slice A (partsT u).length c) := hw.c1;have d3 : W.cell? ⟨bw, 3, none⟩ = some (.int .i64 0) := hw.c3;have HLOW := Hi hw.low;clear hw hC hd1 hd2;go_enter Tryz.func57, Tryz.ntmps57
 go_wp2_with fail
 refine HCL.out.mono ?_;rintro e w1 ⟨v1, rfl, hr1, hb1⟩;obtain ⟨A1, c1, rfl⟩ := Kd.R_slice hr1;have HR1 := Hi hr1;have HB1 := Hi hb1;clear hr1 hb1 HCL
 go_wp2_with ((with_reducible refine gate_builtin (b := .append) (xs := #[.tmp 44, .tmp 46]) rfl ?_); at_builtin; refine Kd.R_append Kd.string (w0 := W) W.heap.size rfl (.tmp 44) (.tmp 46) 61 9 (.string ByteArray.empty) 16 rfl Tryz.underlying61 infoStr rfl (by decide) (by decide) (.slice A1 (partsT u).length c1) (partsT u) p [.string p] (fun _ => True) (fun _ => False) rfl (by first | rfl | (simp; done) | (simp; rfl)) ?aP (fun _ hk => hk.elim) ?aF ?aO ?aB ?aS ?aL ?_; skip)
 case aP => exact rfl
 case aB => exact HB1.out
 case aF => exact (fun _ _ => trivial)
 case aO => exact HR1.out
 case aS => exact HB1.out.size
 case aL => first | omega | (simp; done) | (simp; omega)
 intro va w2 ho hb5 hg5 hat5;have HR2 := Hi ho;have HB2 := Hi hb5;clear ho hb5 hg5 hat5;obtain ⟨A2, c2, rfl⟩ := Kd.R_slice HR2.out;have HJ2 := HJ.out _ _ _ HR2.out;rw [List.length_append, List.length_singleton] at HJ2;have HJ2 := Hi HJ2
 go_wp2_with fail
 with_reducible refine HJ2.out.mono ?_
 rintro e w3 ⟨rfl, hb3⟩;have HB3 := Hi (below_next HB2.out hb3);have d0 := pw_cell_below HB3.out d0;clear hb3 HB1 HB2 HR1 HR2 HJ HJ2;have HL3 := Hi (HLOW.out.trans (HB3.out.mono HLOW.out.size))
 go_wp2_with fail
 refine (HKN.out _ HL3.out).mono ?_;rintro e w4 ⟨rfl, hb4⟩;have HB4 := Hi (below_next HB3.out hb4);have HW4 := Hi (HW.out.below HB4.out);have HKP := Hi (Keeps.below bw (.slice A (partsT u).length c) HB4.out);have d0 : w4.cell? ⟨bw, 0, none⟩ = some (.pointer (some ⟨b, 0, none⟩)) := HW4.out.c0;have d1 : w4.cell? ⟨bw, 1, none⟩ = some (.slice A (partsT u).length c) := HW4.out.c1;have d2 : w4.cell? ⟨bw, 2, none⟩ = some (.int .i64 k) := HW4.out.c2;have d3 : w4.cell? ⟨bw, 3, none⟩ = some (.int .i64 0) := HW4.out.c3;have z1 : w4.frozen? ⟨bw, 1, none⟩ = false := HW4.out.fz 1;have z2 : w4.frozen? ⟨bw, 2, none⟩ = false := HW4.out.fz 2;have z3 : w4.frozen? ⟨bw, 3, none⟩ = false := HW4.out.fz 3;clear hb4 HB3 HL3 HKN HW;rw [hK];have HRW : Hid (Kd.string.R 9 w4 W0.heap.size (fun _ => True) (.slice A (partsT u).length c) (partsT u)) := Hi HW4.out.row;have HLW := Hi HW4.out.low
 go_wp2_with ((with_reducible refine gate_builtin (b := .append) (xs := #[.tmp 71, .tmp 73]) rfl ?_); at_builtin; refine Kd.R_append Kd.string (w0 := W0) W0.heap.size rfl (.tmp 71) (.tmp 73) 61 9 (.string ByteArray.empty) 16 rfl Tryz.underlying61 infoStr rfl (by decide) (by decide) (.slice A (partsT u).length c) (partsT u) p [.string p] (fun _ => True) (fun _ => False) rfl (by first | rfl | (simp; done) | (simp; rfl)) ?aP (fun _ hk => hk.elim) ?aF ?aO ?aB ?aS ?aL ?_; skip)
 case aP => exact rfl
 case aB => exact HLW.out
 case aF => exact (fun _ _ => trivial)
 case aO => exact HRW.out
 case aS => exact HLW.out.size
 case aL => first | omega | (simp; done) | (simp; omega)
 intro v5 w5 ho hb5 hg5 hat5;have HR5 := Hi ho;have HL5 := Hi hb5;have HG5 := Hi hg5;have HA5 := Hi hat5;clear ho hb5 hg5 hat5;obtain ⟨A5, c5, rfl⟩ := Kd.R_slice HR5.out;have hw5 := HW4.out.appended (u1 := joinS u p) HG5.out HL5.out (by rw [partsT_join hp hf]; exact HR5.out) HA5.out;rw [List.length_append, List.length_singleton] at hw5;have z5 := hw5.1;have d5 := hw5.2.1;have HW5 := Hi hw5.2.2;clear hw5;go_wp2;go_end0;exact ⟨rfl, _, HW5.out.1, HKP.out.trans HW5.out.2⟩
end Go.Proofs.YtibmfjacfbpfgaaGreatDoor.Step
namespace Go.Proofs.YtibmfjacfbpfgaaGreatDoor.StepL
open Go.RowKit YtibmfjacfbpfgaaGreatDoorW PrintWords PrintLast PrintMore NameLaw NameWalk NameRef YtibmfjacfbpfgaaGreatDoor.Item Own TreeLaw SortIns FillLaw RealLaw DoneLaw KeepLaw JoinLaw Join DAt StepA Step
theorem step_link (s : List It) (W0 W : World) (b bw : Nat) (v : Value) (u : ByteArray) (k : Nat) (p : ByteArray) (hS : Shown W0 b s) (hp : p.data.toList ≠ []) (hd1 : ¬ p = dot1) (hd2 : ¬ p = dot2) (hf : ∀ c ∈ p.data.toList, c ≠ 47) (hps : p.size ≤ 100000) (hu : WOk (u, k, 0)) (hw : WAt W0 W bw b v (u, k, 0)) (n : Nat) (hIH : StepAny s n) (hK : kindOf s (joinS u p) = 3) (h16 : ¬ 16 < k + 1) (hn : 16 ≤ k + (n + 1)) (u2 : ByteArray) (hu2 : u2 = if (dataAt s (joinS u p)).data.toList.head? = some 47 then ⟨#[]⟩ else u) (da : ByteArray) (hda0 : dataAt s (joinS u p) = da) :
  Calls Tryz.prog 57 #[.pointer (some ⟨bw, 0, none⟩), .string p] W (StepPost W0 W bw b v ((splitT da).foldl (walkR s n) (u2, k + 1, 0))) := by
 have hne : (joinS u p).data.toList ≠ [] := by unfold joinS; split <;> simp [hp]
 have hh := here_kind hS.ord hne (by rw [hK]; decide);obtain ⟨r, hrl, hpl, hda⟩ := link_at hS.ord hh;obtain ⟨As, cs, hcell, hI⟩ := hS.cell
 have HAT : Hid (∀ W', Below W0.heap.size W0 W' → Calls Tryz.prog 70 #[.slice As s.length cs, .string (joinS u p)] W' fun e w' => e = .returned (.tuple #[.int .i64 (placeP s (joinS u p)), .bool true]) ∧ Below W'.heap.size W' w') := Hi (fun W' hW' => by
  have hjs := join_size u p;have hus : u.size ≤ 9000 := hu.size;have h := at_any s As cs (joinS u p) W' (hS.glob.below hW') (Kd.C_below hI hW') hS.len hS.short (by omega);rw [hh] at h
  exact h)
 rw [hpl] at HAT;have HI := Hi hI;have HCE := Hi hcell;have hdl := hS.data _ (List.getElem_mem hrl);rw [hda0] at hda hu2;have HU2 := Hi hu2;rw [← hda] at hdl;have HDE := Hi hda;clear hda hda0 hu2 hI hcell hh hne hpl;have hk15 : k ≤ 15 := by omega
 have HN := Hi hn;clear hn h16;have HOK0 := Hi hu;have q2 : p.toList.isEmpty = false := by rw [Lib.toList_data]; exact List.isEmpty_eq_false_iff.2 hp
 have q3 : (p.toList == [46]) = false := by rw [← dots_ne.1, dot_is]; exact decide_eq_false hd1
 have q4 : (p.toList == [46, 46]) = false := by rw [← dots_ne.2, dot_is]; exact decide_eq_false hd2
 obtain ⟨A, c, rfl, hc, hC⟩ := Kd.R_reads hw.row;have hcnt := partsT_count u;have hus : u.size ≤ 9000 := hu.size;have HCL := Hi (clones_any (partsT u) A c W hC (by show (partsT u).length ≤ _; omega))
 have HKN : Hid (∀ W', Below W0.heap.size W0 W' → Calls Tryz.prog 59 #[.pointer (some ⟨b, 0, none⟩), .string (joinS u p)] W' fun e w' => e = .returned (.int .i64 (kindOf s (joinS u p))) ∧ Below W'.heap.size W' w') := Hi (fun W' hW' => by
  obtain ⟨As, cs, hcell, hI⟩ := hS.cell;have hjs := join_size u p
  exact kind_any b s As cs (joinS u p) W' (hS.glob.below hW') (pw_cell_below hW' hcell) (Kd.C_below hI hW') hS.len hS.ord hS.short (by omega))
 have HJ : Hid (∀ v1 W' n, Kd.string.R 9 W' n (fun _ => True) v1 (partsT u ++ [p]) → Calls Tryz.prog 58 #[v1, .string ⟨#[47]⟩] W' fun e w' => e = .returned (.string (joinS u p)) ∧ Below W'.heap.size W' w') := Hi (fun v1 W' n h => by
  have h2 := joins_any (partsT u ++ [p]) v1 n W' h (by simp) (by simp; omega) (by rw [join_glue, len_data]; have := join_size u p; omega);rw [join_is] at h2
  exact h2)
 have HW := Hi hw;have d0 : W.cell? ⟨bw, 0, none⟩ = some (.pointer (some ⟨b, 0, none⟩)) := hw.c0;have d1 : W.cell? ⟨bw, 1, none⟩ = some (.slice A (partsT u).length c) := hw.c1;have d3 : W.cell? ⟨bw, 3, none⟩ = some (.int .i64 0) := hw.c3;have HLOW := Hi hw.low;clear hw hC hd1 hd2;go_enter Tryz.func57, Tryz.ntmps57
 go_wp2_with fail
 refine HCL.out.mono ?_;rintro e w1 ⟨v1, rfl, hr1, hb1⟩;obtain ⟨A1, c1, rfl⟩ := Kd.R_slice hr1;have HR1 := Hi hr1;have HB1 := Hi hb1;clear hr1 hb1 HCL
 go_wp2_with ((with_reducible refine gate_builtin (b := .append) (xs := #[.tmp 44, .tmp 46]) rfl ?_); at_builtin; refine Kd.R_append Kd.string (w0 := W) W.heap.size rfl (.tmp 44) (.tmp 46) 61 9 (.string ByteArray.empty) 16 rfl Tryz.underlying61 infoStr rfl (by decide) (by decide) (.slice A1 (partsT u).length c1) (partsT u) p [.string p] (fun _ => True) (fun _ => False) rfl (by first | rfl | (simp; done) | (simp; rfl)) ?aP (fun _ hk => hk.elim) ?aF ?aO ?aB ?aS ?aL ?_; skip)
 case aP => exact rfl
 case aB => exact HB1.out
 case aF => exact (fun _ _ => trivial)
 case aO => exact HR1.out
 case aS => exact HB1.out.size
 case aL => first | omega | (simp; done) | (simp; omega)
 intro va w2 ho hb5 hg5 hat5;have HR2 := Hi ho;have HB2 := Hi hb5;clear ho hb5 hg5 hat5;obtain ⟨A2, c2, rfl⟩ := Kd.R_slice HR2.out;have HJ2 := HJ.out _ _ _ HR2.out;rw [List.length_append, List.length_singleton] at HJ2;have HJ2 := Hi HJ2
 go_wp2_with fail
 with_reducible refine HJ2.out.mono ?_
 rintro e w3 ⟨rfl, hb3⟩;have HB3 := Hi (below_next HB2.out hb3);have d0 := pw_cell_below HB3.out d0;clear hb3 HB1 HB2 HR1 HR2 HJ HJ2;have HL3 := Hi (HLOW.out.trans (HB3.out.mono HLOW.out.size))
 go_wp2_with fail
 refine (HKN.out _ HL3.out).mono ?_;rintro e w4 ⟨rfl, hb4⟩;have HB4 := Hi (below_next HB3.out hb4);have HW4 := Hi (HW.out.below HB4.out);have HKP := Hi (Keeps.below bw (.slice A (partsT u).length c) HB4.out);have d0 : w4.cell? ⟨bw, 0, none⟩ = some (.pointer (some ⟨b, 0, none⟩)) := HW4.out.c0;have d1 : w4.cell? ⟨bw, 1, none⟩ = some (.slice A (partsT u).length c) := HW4.out.c1;have d2 : w4.cell? ⟨bw, 2, none⟩ = some (.int .i64 k) := HW4.out.c2;have d3 : w4.cell? ⟨bw, 3, none⟩ = some (.int .i64 0) := HW4.out.c3;have z1 : w4.frozen? ⟨bw, 1, none⟩ = false := HW4.out.fz 1;have z2 : w4.frozen? ⟨bw, 2, none⟩ = false := HW4.out.fz 2;have z3 : w4.frozen? ⟨bw, 3, none⟩ = false := HW4.out.fz 3;clear hb4 HB3 HL3 HKN HW;rw [hK];have hw2 : Go.RowKit.wrap64 ((k : Int) + 1) = (k : Int) + 1 := by unfold Go.RowKit.wrap64; omega
 have hgt : ¬ (16 : Int) < (k : Int) + 1 := by omega
 have HW5 : Hid (WAt W0 (w4.setCell ⟨bw, 2, none⟩ (.int .i64 ((k : Int) + 1))) bw b (.slice A (partsT u).length c) (u, k + 1, 0)) := Hi (HW4.out.links (k + 1));have HK5 := Hi (HKP.out.trans (keeps_set w4 bw _ 2 (.int .i64 ((k : Int) + 1))));have HL5 := Hi HW5.out.low;have g1 := pw_cell_below HW4.out.low HCE.out;clear HKP HW4
 go_wp2_with fail
 generalize w4.setCell ⟨bw, 2, none⟩ (.int .i64 ((k : Int) + 1)) = w5 at *;refine (HAT.out _ HL5.out).mono ?_;rintro e w6 ⟨rfl, hb6⟩;have HW6 := Hi (HW5.out.below hb6);have HK6 := Hi (HK5.out.trans (Keeps.below bw _ hb6));have HL6 := Hi HW6.out.low;have g1 := pw_cell_below HL6.out HCE.out;have e0 : w6.cell? ⟨bw, 0, none⟩ = some (.pointer (some ⟨b, 0, none⟩)) := HW6.out.c0;have e1 : w6.cell? ⟨bw, 1, none⟩ = some (.slice A (partsT u).length c) := HW6.out.c1;have y1 : w6.frozen? ⟨bw, 1, none⟩ = false := HW6.out.fz 1;clear hb6 HW5 HK5 HAT;obtain ⟨ad, rfl, _, _, _, _, _, _, _, i7⟩ := item_at (Kd.C_below HI.out HL6.out) hrl;have hrI : (r : Int) < (s.length : Int) := by omega
 rw [← HDE.out] at i7;have HPX := Hi (Tryz.strings_HasPrefix da ⟨#[47]⟩ w6);have hpx : Lib.hasPrefix da.data.toList (⟨#[47]⟩ : ByteArray).data.toList = decide (da.data.toList.head? = some 47) := head_is _;rw [hpx] at HPX;clear hpx HL6 HI
 by_cases hpre : da.data.toList.head? = some 47
 ·
  obtain rfl : u2 = ⟨#[]⟩ := by rw [HU2.out, if_pos hpre]
  clear HU2;rw [decide_eq_true hpre] at HPX
  go_wp2_with fail
  refine HPX.out.mono ?_;rintro e w6x ⟨rfl, rfl⟩;have HW7 := Hi (HW6.out.place (u := ⟨#[]⟩) (v1 := .slice none 0 0) (Kd.R_nil _ _ _ _ _));have HK7 : Hid (Keeps bw W (.slice A (partsT u).length c) (w6x.setCell ⟨bw, 1, none⟩ (.slice none 0 0)) (.slice none 0 0)) := Hi (HK6.out.trans ⟨(set_grown w6x bw 1 (.slice none 0 0)).size, fun j hj h1 _ => (set_grown w6x bw 1 (.slice none 0 0)).block j hj (fun e => h1 (by injection e)), .inr (.inl rfl)⟩);have HOK : Hid (WOk (⟨#[]⟩, k + 1, 0)) := Hi ⟨full_nil, by show (⟨#[]⟩ : ByteArray).size ≤ 9000; decide, by show k + 1 ≤ 17; omega, fun _ => by show k + 1 ≤ 16; omega⟩;clear HPX HW6 HK6;generalize hw7 : w6x.setCell ⟨bw, 1, none⟩ (.slice none 0 0) = w7 at HW7 HK7;have HSP := Hi (split_any da w7 (hS.glob.below HW7.out.low) (by omega));have hln := splitT_length da;have HFR := Hi (splitT_free da);have HLE := Hi (splitT_le da);generalize splitT da = LS at *;have hb8 := below_one w7 (.cells (LS.map Value.string).toArray 9);have HROW := Hi (heap_new w7 (.cells (LS.map Value.string).toArray 9));have HW8 := Hi (HW7.out.below hb8);have HK8 := Hi (HK7.out.trans (Keeps.below bw (.slice none 0 0) hb8));have hbs : bw < w7.heap.size := HW7.out.lt;have hvs : ∀ g, ((.slice none 0 0) : Value).ownBlock = some g → g < w7.heap.size := Kd.R_lt HW7.out.row;have hg8 : w7.heap.size < (w7.alloc (.cells (LS.map Value.string).toArray 9)).heap.size := (Own.lo HROW.out);clear hb8
  go_wp2_with fail
  refine HSP.out.mono ?_;rintro e w8' ⟨rfl, rfl⟩;clear HSP HK7 HW7;generalize w7.alloc (.cells (LS.map Value.string).toArray 9) = w8 at *;generalize w7.heap.size = g8 at *
  go_wp2_with fail
  go_loopw [126] (fun i wr => ∃ (j : Nat) (vr : Value), j ≤ LS.length ∧ i = .int .i64 j ∧ Hid (WAt W0 wr bw b vr ((LS.take j).foldl (walkR s n) (⟨#[]⟩, k + 1, 0))) ∧ Hid (Keeps bw w8 (.slice none 0 0) wr vr)) (fun i _ => LS.length - (intOf i).toNat)
  case atStart => exact ⟨0, (.slice none 0 0), Nat.zero_le _, rfl, HW8, Hi (Keeps.refl _ _ _)⟩
  obtain ⟨j, vr, hj, rfl, HWR, HKR⟩ := hrel;have hok : WOk ((LS.take j).foldl (walkR s n) (⟨#[]⟩, k + 1, 0)) := fold_ok hS.paths n _ _ (fun p hp => HFR.out p (List.mem_of_mem_take hp)) HOK.out;have hmo : k + 1 ≤ ((LS.take j).foldl (walkR s n) (⟨#[]⟩, k + 1, 0)).2.1 := fold_mono (walk_mono s n) (LS.take j) (⟨#[]⟩, k + 1, 0)
  by_cases hlt : j < LS.length
  ·
   have hltI : (j : Int) < (LS.length : Int) := by omega
   have hrr : wr.heap[g8]? = some (.cells (LS.map Value.string).toArray 9 (0, 0)) := (HKR.out.block g8 hg8 (by omega) (fun e => by have := hvs g8 e.symm; omega)).trans HROW.out;have ec : wr.cell? ⟨g8, j, none⟩ = some (.string LS[j]) := by rw [cell_of hrr]; simp [hlt]
   have HST := Hi (take_fold (walkR s n) LS (⟨#[]⟩, k + 1, 0) hlt);have hfj := HFR.out _ (List.getElem_mem hlt);have hsj := HLE.out _ (List.getElem_mem hlt);generalize LS[j] = y at *;generalize (LS.take j).foldl (walkR s n) (⟨#[]⟩, k + 1, 0) = wj at *;have HC := Hi (hIH W0 b wj y bw vr wr hS (by have := HN.out; omega) hok hfj (by omega) HWR.out);clear hfj hsj hok hmo hrr
   go_wp2_with fail
   refine HC.out.mono ?_;rintro e w9 ⟨rfl, v9, hw9, hk9⟩;have HW9 := Hi hw9;have HK9 := Hi (HKR.out.trans hk9);clear hw9 hk9 HC HWR HKR;go_wp2;go_roundw
   case rel => exact ⟨j + 1, v9, by omega, by go_num, by rw [HST.out]; exact HW9, HK9⟩
   case measure => simp [intOf]; omega
  have hj2 : ¬ (j : Int) < (LS.length : Int) := by omega
  have HWF : Hid (WAt W0 wr bw b vr (LS.foldl (walkR s n) (⟨#[]⟩, k + 1, 0))) := by
   have h := HWR;rw [List.take_of_length_le (by omega)] at h;exact h
  have HKF := Hi (HK8.out.trans HKR.out);clear HWR HKR hok hmo;go_wp2;go_end0;exact ⟨rfl, vr, HWF.out, HKF.out⟩
 obtain rfl : u2 = u := by rw [HU2.out, if_neg hpre]
 clear HU2;rw [decide_eq_false hpre] at HPX
 go_wp2_with fail
 refine HPX.out.mono ?_;rintro e w7 ⟨rfl, rfl⟩;have HW7 := HW6;have HK7 := HK6;have HOK : Hid (WOk (u2, k + 1, 0)) := Hi ⟨HOK0.out.full, HOK0.out.size, by show k + 1 ≤ 17; omega, fun _ => by show k + 1 ≤ 16; omega⟩;clear HPX HW6 HK6;have HSP := Hi (split_any da w7 (hS.glob.below HW7.out.low) (by omega));have hln := splitT_length da;have HFR := Hi (splitT_free da);have HLE := Hi (splitT_le da);generalize splitT da = LS at *;have hb8 := below_one w7 (.cells (LS.map Value.string).toArray 9);have HROW := Hi (heap_new w7 (.cells (LS.map Value.string).toArray 9));have HW8 := Hi (HW7.out.below hb8);have HK8 := Hi (HK7.out.trans (Keeps.below bw (.slice A (partsT u2).length c) hb8));have hbs : bw < w7.heap.size := HW7.out.lt;have hvs : ∀ g, ((.slice A (partsT u2).length c) : Value).ownBlock = some g → g < w7.heap.size := Kd.R_lt HW7.out.row;have hg8 : w7.heap.size < (w7.alloc (.cells (LS.map Value.string).toArray 9)).heap.size := (Own.lo HROW.out);clear hb8
 go_wp2_with fail
 refine HSP.out.mono ?_;rintro e w8' ⟨rfl, rfl⟩;clear HSP HK7 HW7;generalize w7.alloc (.cells (LS.map Value.string).toArray 9) = w8 at *;generalize w7.heap.size = g8 at *
 go_wp2_with fail
 go_loopw [126] (fun i wr => ∃ (j : Nat) (vr : Value), j ≤ LS.length ∧ i = .int .i64 j ∧ Hid (WAt W0 wr bw b vr ((LS.take j).foldl (walkR s n) (u2, k + 1, 0))) ∧ Hid (Keeps bw w8 (.slice A (partsT u2).length c) wr vr)) (fun i _ => LS.length - (intOf i).toNat)
 case atStart => exact ⟨0, (.slice A (partsT u2).length c), Nat.zero_le _, rfl, HW8, Hi (Keeps.refl _ _ _)⟩
 obtain ⟨j, vr, hj, rfl, HWR, HKR⟩ := hrel;have hok : WOk ((LS.take j).foldl (walkR s n) (u2, k + 1, 0)) := fold_ok hS.paths n _ _ (fun p hp => HFR.out p (List.mem_of_mem_take hp)) HOK.out;have hmo : k + 1 ≤ ((LS.take j).foldl (walkR s n) (u2, k + 1, 0)).2.1 := fold_mono (walk_mono s n) (LS.take j) (u2, k + 1, 0)
 by_cases hlt : j < LS.length
 ·
  have hltI : (j : Int) < (LS.length : Int) := by omega
  have hrr : wr.heap[g8]? = some (.cells (LS.map Value.string).toArray 9 (0, 0)) := (HKR.out.block g8 hg8 (by omega) (fun e => by have := hvs g8 e.symm; omega)).trans HROW.out;have ec : wr.cell? ⟨g8, j, none⟩ = some (.string LS[j]) := by rw [cell_of hrr]; simp [hlt]
  have HST := Hi (take_fold (walkR s n) LS (u2, k + 1, 0) hlt);have hfj := HFR.out _ (List.getElem_mem hlt);have hsj := HLE.out _ (List.getElem_mem hlt);generalize LS[j] = y at *;generalize (LS.take j).foldl (walkR s n) (u2, k + 1, 0) = wj at *;have HC := Hi (hIH W0 b wj y bw vr wr hS (by have := HN.out; omega) hok hfj (by omega) HWR.out);clear hfj hsj hok hmo hrr
  go_wp2_with fail
  refine HC.out.mono ?_;rintro e w9 ⟨rfl, v9, hw9, hk9⟩;have HW9 := Hi hw9;have HK9 := Hi (HKR.out.trans hk9);clear hw9 hk9 HC HWR HKR;go_wp2;go_roundw
  case rel => exact ⟨j + 1, v9, by omega, by go_num, by rw [HST.out]; exact HW9, HK9⟩
  case measure => simp [intOf]; omega
 have hj2 : ¬ (j : Int) < (LS.length : Int) := by omega
 have HWF : Hid (WAt W0 wr bw b vr (LS.foldl (walkR s n) (u2, k + 1, 0))) := by
  have h := HWR;rw [List.take_of_length_le (by omega)] at h;exact h
 have HKF := Hi (HK8.out.trans HKR.out);clear HWR HKR hok hmo;go_wp2;go_end0;exact ⟨rfl, vr, HWF.out, HKF.out⟩
theorem step_gen (s : List It) (n : Nat) (hIH : ∀ m, n = m + 1 → StepAny s m) : StepAny s n := by
 rintro W0 b ⟨u, k, e⟩ p bw v W hS hn hu hf hps hw;have hn : 16 ≤ k + n := hn
 by_cases he : e = 0
 ·
  subst he
  by_cases hp : p.data.toList = []
  ·
   rw [walk_stay (.inr (.inl hp))];exact step_empty W0 W b bw v u k 0 p rfl (by rw [Lib.toList_data]; exact hp) hw
  by_cases hd1 : p = dot1
  ·
   rw [walk_stay (.inr (.inr hd1))];exact step_dot W0 W b bw v u k 0 p rfl (by rw [hd1]; exact dots_ne.1) hw
  have h0 : ¬ (((u, k, (0 : Int)) : Wk).2.2 ≠ 0 ∨ p.data.toList = [] ∨ p = dot1) := by
   rintro (h | h | h)
   ·
    exact h rfl
   ·
    exact hp h
   exact hd1 h
  by_cases hd2 : p = dot2
  ·
   rw [walk_up h0 hd2];exact step_up W0 W b bw v u k p (by rw [hd2]; exact dots_ne.2) hu.full hu.size hw
  by_cases k0 : kindOf s (joinS u p) = 0
  ·
   rw [walk_none h0 hd2 k0];exact step_none s W0 W b bw v u k p hS hp hd1 hd2 hf hps hu hw k0
  by_cases k2 : kindOf s (joinS u p) = 2
  ·
   rw [walk_file h0 hd2 k2];exact step_file s W0 W b bw v u k p hS hp hd1 hd2 hf hps hu hw k2
  by_cases k1 : kindOf s (joinS u p) = 1
  ·
   rw [walk_dir h0 hd2 k1];exact step_dir s W0 W b bw v u k p hS hp hd1 hd2 hf hps hu hw k1
  by_cases k3 : kindOf s (joinS u p) = 3
  ·
   by_cases h3 : 16 < k + 1
   ·
    rw [walk_loop h0 hd2 k3 h3];exact step_many s W0 W b bw v u k p hS hp hd1 hd2 hf hps hu hw k3 h3
   cases n with
   | zero => exact absurd (show 16 < k + 1 by omega) h3
   | succ n =>
    rw [walk_link h0 hd2 k3 h3];exact step_link s W0 W b bw v u k p hS hp hd1 hd2 hf hps hu hw n (hIH n rfl) k3 h3 hn _ rfl _ rfl
  rw [walk_else h0 hd2 k0 k2 k1 k3];exact step_else s W0 W b bw v u k p hS hp hd1 hd2 hf hps hu hw k0 k2 k1 k3
 rw [walk_stay (.inl he)];exact step_err W0 W b bw v u k e p he hw
theorem step_any (s : List It) : ∀ n, StepAny s n
 | 0 => step_gen s 0 (fun m h => by cases h)
 | n + 1 => step_gen s (n + 1) (fun m h => by have e : n = m := Nat.succ.inj h; exact e ▸ step_any s n)
end Go.Proofs.YtibmfjacfbpfgaaGreatDoor.StepL
namespace Go.Proofs.YtibmfjacfbpfgaaGreatDoor.Real
open Go.RowKit YtibmfjacfbpfgaaGreatDoorW PrintWords PrintLast PrintMore NameLaw NameWalk NameRef NameKeepLaw NameUse YtibmfjacfbpfgaaGreatDoor.Item Own TreeLaw SortIns FillLaw RealLaw DoneLaw RealKeep KeepLaw JoinLaw Join DAt StepA Step StepL
theorem real_bad {s : List It} {path : ByteArray} (h : checkE path ≠ 0 ∨ checkD path = true) : realP s path = (⟨#[]⟩, 20) := by unfold realP; rw [if_pos h]
def endW (s : List It) (path : ByteArray) : Wk := (partsT (checkP path)).dropLast.foldl (walkR s 16) (⟨#[]⟩, 0, 0)
theorem real_err {s : List It} {path : ByteArray} (h : ¬ (checkE path ≠ 0 ∨ checkD path = true)) (h1 : (endW s path).2.2 ≠ 0) : realP s path = (⟨#[]⟩, (endW s path).2.2) := by
 unfold realP;rw [if_neg h];exact if_pos h1
theorem real_long {s : List It} {path : ByteArray} (h : ¬ (checkE path ≠ 0 ∨ checkD path = true)) (h1 : ¬ (endW s path).2.2 ≠ 0) (h2 : checkE (joinS (endW s path).1 (lastB (partsT (checkP path)))) ≠ 0) : realP s path = (⟨#[]⟩, 5) := by
 unfold realP;rw [if_neg h];exact (if_neg h1).trans (if_pos h2)
theorem real_good {s : List It} {path : ByteArray} (h : ¬ (checkE path ≠ 0 ∨ checkD path = true)) (h1 : ¬ (endW s path).2.2 ≠ 0) (h2 : ¬ checkE (joinS (endW s path).1 (lastB (partsT (checkP path)))) ≠ 0) : realP s path = (joinS (endW s path).1 (lastB (partsT (checkP path))), 0) := by
 unfold realP;rw [if_neg h];exact (if_neg h1).trans (if_neg h2)
theorem parts_free (d : ByteArray) : ∀ p ∈ partsT d, ∀ c ∈ p.data.toList, c ≠ 47 := by
 intro p hp;unfold partsT partsL at hp;obtain ⟨m, hm, rfl⟩ := List.mem_map.1 hp
 split at hm
 ·
  cases hm
 exact split_free _ m hm
theorem parts_pos {d : ByteArray} (h : d.data.toList ≠ []) : 0 < (partsT d).length := by
 unfold partsT partsL;rw [if_neg h, List.length_map];exact List.length_pos_iff.2 (splitL_ne _)
theorem checkP_ne {p : ByteArray} (h : checkE p = 0) : (checkP p).data.toList ≠ [] := by
 rw [checkP_is h];intro e;have := check_safe h [] (by rw [e]; simp [splitL]);simp [safeL] at this
theorem checkP_size (p : ByteArray) : (checkP p).size ≤ p.size := by
 unfold checkP
 split
 ·
  exact cutT_size p
 exact Nat.zero_le _
theorem lastB_at {l : List ByteArray} (h : 0 < l.length) : lastB l = l[l.length - 1] := by
 unfold lastB;rw [List.getLast?_eq_getElem?, List.getElem?_eq_getElem (by omega)];rfl
theorem parts_row (p : ByteArray) (w : World) (hg : Glob w) (hp : p.size < 4294967281) (h0 : p.data.toList ≠ []) :
  Calls Tryz.prog 56 #[.string p] w fun e w' => e = .returned (.slice (some ⟨w.heap.size, 0, none⟩) (partsT p).length (partsT p).length) ∧ w' = w.alloc (.cells ((partsT p).map Value.string).toArray 9) := by
 have hz : partsT p = splitT p := by
  unfold partsT partsL splitT;rw [if_neg h0]
 rw [hz];have h := split_any p w hg hp;have HS := Hi h;have h1 : p.toList ≠ [] := by rw [Lib.toList_data]; exact h0
 have hd : (!p.toList.isEmpty) = true := by simp [h1]
 have hd2 : p.toList.isEmpty = false := by simp [h1]
 clear hz hg h h0;go_enter Tryz.func56, Tryz.ntmps56
 go_wp2_with (go_at_call 88; refine HS.out.mono ?_; rintro e w' ⟨rfl, rfl⟩)
 go_ret;exact ⟨rfl, rfl⟩
theorem shown_below {W W1 : World} {b : Nat} {s : List It} (h : Shown W b s) (hb : Below W.heap.size W W1) : Shown W1 b s := by
 obtain ⟨A, c, h1, h2⟩ := h.cell;exact ⟨h.glob.below hb, ⟨A, c, pw_cell_below hb h1, Kd.C_below h2 hb⟩, Nat.lt_of_lt_of_le h.blt hb.size, h.len, h.ord, h.paths, h.data⟩
theorem endW_take (s : List It) (path : ByteArray) : endW s path = ((partsT (checkP path)).take ((partsT (checkP path)).length - 1)).foldl (walkR s 16) (⟨#[]⟩, 0, 0) := by unfold endW; rw [List.dropLast_eq_take]
theorem real_fell (s : List It) (W : World) (b : Nat) (path : ByteArray) (hS : Shown W b s) (hp : path.size ≤ 10000) (hb : checkE path ≠ 0 ∨ checkD path = true) :
  Calls Tryz.prog 16 #[.pointer (some ⟨b, 0, none⟩), .string path] W fun e w' => e = .returned (.tuple #[.string ⟨#[]⟩, .int .i64 20]) ∧ Below W.heap.size W w' := by
 have HG := Hi hS.glob;have HCK := check_next HG (Hi (Below.refl W.heap.size W)) path (by omega);replace HCK := Hi HCK;generalize checkE path = E at *;generalize checkD path = D at *;generalize checkP path = P at *;clear hS
 by_cases hE : E = 0
 ·
  subst hE;obtain rfl : D = true := hb.resolve_left (fun h => h rfl);clear hb;go_enter Tryz.func16, Tryz.ntmps16
  go_wp2_with fail
  refine HCK.out.mono ?_;rintro e w1 ⟨rfl, HB1⟩;clear HCK;go_wp2;go_ret2;exact ⟨rfl, HB1.out⟩
 have q0 : (E == 0) = false := beq_eq_false_iff_ne.2 hE;have q1 : (E != 0) = true := bne_iff_ne.2 hE;clear hb;go_enter Tryz.func16, Tryz.ntmps16
 go_wp2_with fail
 refine HCK.out.mono ?_;rintro e w1 ⟨rfl, HB1⟩;clear HCK;go_wp2;go_ret2;exact ⟨rfl, HB1.out⟩
theorem real_rest (s : List It) (W : World) (b : Nat) (path : ByteArray) (hS : Shown W b s) (hp : path.size ≤ 10000) (hb : ¬ (checkE path ≠ 0 ∨ checkD path = true)) (R : ByteArray × Int) (hR : R = realP s path) :
  Calls Tryz.prog 16 #[.pointer (some ⟨b, 0, none⟩), .string path] W fun e w' => e = .returned (.tuple #[.string R.1, .int .i64 R.2]) ∧ Below W.heap.size W w' := by
 have HG := Hi hS.glob;have HCK := check_next HG (Hi (Below.refl W.heap.size W)) path (by omega);have HER := Hi (fun h => hR.trans (real_err hb h));have HLO := Hi (fun h1 h2 => hR.trans (real_long (s := s) hb h1 h2));have HGO := Hi (fun h1 h2 => hR.trans (real_good (s := s) hb h1 h2));clear hR;have hE : checkE path = 0 := Classical.byContradiction fun h => hb (.inl h)
 have hD : checkD path = false := by cases h : checkD path with | false => rfl | true => exact absurd (Or.inr h) hb
 rw [hE, hD] at HCK;replace HCK := Hi HCK;have hne := checkP_ne hE;have hps := checkP_size path;have hpp := parts_pos hne;have HPT := Hi (fun W' (hW' : Below W.heap.size W W') => parts_row (checkP path) W' (HG.out.below hW') (by omega) hne);have hcnt := partsT_count (checkP path);have hFR := parts_free (checkP path);have hLE := partsT_le (checkP path);have hlast := lastB_at hpp;have hEND := endW_take s path;generalize endW s path = wE at *;clear hE hD hb hne;generalize checkP path = P at *;generalize partsT P = ps at *;obtain ⟨M, hM⟩ : ∃ M, ps.length = M + 1 := ⟨ps.length - 1, by omega⟩;replace hlast : lastB ps = ps[M]'(by omega) := by rw [hlast]; congr 1; omega
 rw [show ps.length - 1 = M by omega] at hEND;rw [hlast] at HLO HGO;rw [hM] at HPT;replace hcnt : M ≤ 10000 := by omega
 skip;have HFR := Hi hFR;have HLE := Hi hLE;have HEND := Hi hEND;have HSP := Hi hS.paths;clear hFR hLE hEND;go_enter Tryz.func16, Tryz.ntmps16
 go_wp2_with fail
 refine HCK.out.mono ?_;rintro e w1 ⟨rfl, HB1⟩;clear HCK
 go_wp2_with fail
 refine (HPT.out w1 HB1.out).mono ?_;rintro e W2 ⟨rfl, hw2⟩;have hb2 := below_one w1 (.cells (ps.map Value.string).toArray 9);have HROW := Hi (heap_new w1 (.cells (ps.map Value.string).toArray 9));rw [← hw2] at hb2 HROW;have HB2 := Hi (below_next HB1.out hb2);generalize w1.heap.size = g2 at *;clear hw2 hb2 HPT HB1;have hg2 : g2 < W2.heap.size := (Own.lo HROW.out);have hb3 := below_one W2 (.cells #[.pointer (some ⟨b, 0, none⟩), .slice none 0 0, .int .i64 0, .int .i64 0] 102);have HK3 := Hi (heap_new W2 (.cells #[.pointer (some ⟨b, 0, none⟩), .slice none 0 0, .int .i64 0, .int .i64 0] 102));have HS2 := Hi (shown_below hS HB2.out);have HW3 : Hid (WAt W2 (W2.alloc (.cells #[.pointer (some ⟨b, 0, none⟩), .slice none 0 0, .int .i64 0, .int .i64 0] 102)) W2.heap.size b (.slice none 0 0) (⟨#[]⟩, 0, 0)) := Hi ⟨HK3.out, Kd.R_nil _ _ _ _ _, Nat.le_refl _, hb3⟩;clear hb3 HK3 hS;have hw1 : Go.RowKit.wrap64 ((M : Int) + 1 - 1) = (M : Int) := by unfold Go.RowKit.wrap64; omega
 have hw2 : Go.RowKit.wrap64 (M : Int) = (M : Int) := by unfold Go.RowKit.wrap64; omega
 have hm1 : (M : Int) ≤ (M : Int) + 1 := by omega
 have hm3 : (M : Int) < (M : Int) + 1 := by omega
 have hm2 : (0 : Int) ≤ (M : Int) + 1 - 1 := by omega
 go_wp2_with fail
 generalize W2.alloc (.cells #[.pointer (some ⟨b, 0, none⟩), .slice none 0 0, .int .i64 0, .int .i64 0] 102) = W3 at *;obtain ⟨bw, hbw⟩ : ∃ bw, bw = W2.heap.size := ⟨_, rfl⟩;rw [← hbw] at HW3 ⊢;clear hbw
 go_loopw [41] (fun i wr => ∃ (j : Nat) (vr : Value), j ≤ M ∧ i = .int .i64 j ∧ Hid (WAt W2 wr bw b vr ((ps.take j).foldl (walkR s 16) (⟨#[]⟩, 0, 0)))) (fun i _ => M - (intOf i).toNat)
 case atStart => exact ⟨0, .slice none 0 0, Nat.zero_le _, rfl, HW3⟩
 obtain ⟨j, vr, hj, rfl, HWR⟩ := hrel;have hok : WOk ((ps.take j).foldl (walkR s 16) (⟨#[]⟩, 0, 0)) := fold_ok HSP.out 16 _ _ (fun p hp => HFR.out p (List.mem_of_mem_take hp)) wok_start;have hrr : ∀ i (h : i < ps.length), wr.cell? ⟨g2, i, none⟩ = some (.string ps[i]) := fun i h => by rw [cell_of ((HWR.out.low.block g2 hg2).trans HROW.out)]; simp [h]
 by_cases hlt : j < M
 ·
  have hltI : (j : Int) < (M : Int) := by omega
  have hjl : j < ps.length := by omega
  have ec := hrr j hjl;have HST := Hi (take_fold (walkR s 16) ps (⟨#[]⟩, 0, 0) hjl);have hfj := HFR.out _ (List.getElem_mem hjl);have hsj := HLE.out _ (List.getElem_mem hjl);generalize ps[j] = y at *;generalize (ps.take j).foldl (walkR s 16) (⟨#[]⟩, 0, 0) = wj at *;have HC := Hi (step_any s 16 W2 b wj y bw vr wr HS2.out (by omega) hok hfj (by omega) HWR.out);clear hfj hsj hok hrr
  go_wp2_with fail
  refine HC.out.mono ?_;rintro e w9 ⟨rfl, v9, hw9, hk9⟩;have HW9 := Hi hw9;clear hw9 hk9 HC HWR;go_wp2;go_roundw
  case rel => exact ⟨j + 1, v9, by omega, by go_num, by rw [HST.out]; exact HW9⟩
  case measure => simp [intOf]; omega
 have hj2 : ¬ (j : Int) < (M : Int) := by omega
 obtain rfl : j = M := by omega
 have hMl : j < ps.length := by omega
 have dy0 := hrr j hMl;have hsy := HLE.out _ (List.getElem_mem hMl);rw [← HEND.out] at HWR hok;clear HEND hrr;generalize ps[j] = y at *;obtain ⟨u, k, E⟩ := wE;have d3 : wr.cell? ⟨bw, 3, none⟩ = some (.int .i64 E) := HWR.out.c3;have HB4 := Hi (below_next HB2.out HWR.out.low)
 by_cases hE : E = 0
 ·
  subst hE;have hu : u.size ≤ 9000 := hok.size;have hjs := join_size u y;have hcu := partsT_count u;have HJ := Hi (fun (v : Value) (n : Nat) (W' : World) (h : Kd.string.R 9 W' n (fun _ => True) v (partsT u ++ [y])) => joins_any (partsT u ++ [y]) v n W' h (by simp) (by simp; omega) (by rw [join_glue, len_data]; omega));rw [join_is] at HJ;have HCK2 := Hi (fun w6 (h6 : Hid (Below W.heap.size W w6)) => check_next HG h6 (joinS u y) (by omega));have HLO := Hi (HLO.out (fun h => h rfl));have HGO := Hi (HGO.out (fun h => h rfl));clear HER hjs;go_wp2;obtain ⟨A4, c4, hv4, hc4, _⟩ := Kd.R_reads HWR.out.row;subst hv4;have HW4 := Hi (HWR.out.below (below_drew (Below.refl _ _)));have d1 : wr.drew.cell? ⟨bw, 1, none⟩ = some (.slice A4 (partsT u).length c4) := HW4.out.c1;have dy : wr.drew.cell? ⟨g2, j, none⟩ = some (.string y) := dy0;clear d3 dy0;refine start_ (n := 14) (S := fun w' => w'.cell? ⟨bw, 1, none⟩ = some (.slice A4 (partsT u).length c4) ∧ w'.cell? ⟨g2, j, none⟩ = some (.string y)) (ds := [11, 12]) (bm 14 0) (by kernel_rfl) rfl rfl ⟨d1, dy⟩ (fun hHeld => ?_);generalize wr.drew = w4 at *;refine pure_ (i := 0) (N := some 58) (v := ?_) (a' := ?_) (bm 14 1) rfl rfl (by kernel_rfl) (fun _ _ _ h => h) (Or.inl ⟨by rfl, ?_⟩) ?_ ?_;rotate_left;intro w';go_simp;(with_reducible rfl);rotate_left;simp only [Act.put, nA, nZ, nS, i64_w, i32_w];rfl;refine pure_ (i := 1) (N := some 59) (v := ?_) (a' := ?_) (bm 14 3) rfl rfl (by kernel_rfl) (fun _ _ _ h => h) (Or.inl ⟨by rfl, ?_⟩) ?_ ?_;rotate_left;intro w';go_simp;(with_reducible rfl);rotate_left;simp only [Act.put, nA, nZ, nS, i64_w, i32_w];rfl;refine pure_ (i := 2) (N := some 60) (v := ?_) (a' := ?_) (bm 14 7) rfl rfl (by kernel_rfl) (fun _ _ _ h => h) (Or.inl ⟨by rfl, ?_⟩) ?_ ?_;rotate_left;intro w';go_simp;(with_reducible rfl);rotate_left;simp only [Act.put, nA, nZ, nS, i64_w, i32_w];rfl;refine pure_ (i := 4) (N := some 62) (v := ?_) (a' := ?_) (bm 14 23) rfl rfl (by kernel_rfl) (fun _ _ _ h => h) (Or.inl ⟨by rfl, ?_⟩) ?_ ?_;rotate_left;intro w';go_simp;(with_reducible rfl);rotate_left;simp only [Act.put, nA, nZ, nS, i64_w, i32_w];rfl;refine pure_ (i := 5) (N := some 63) (v := ?_) (a' := ?_) (bm 14 55) rfl rfl (by kernel_rfl) (fun _ _ _ h => h) (Or.inl ⟨by rfl, ?_⟩) ?_ ?_;rotate_left;intro w';go_simp;(with_reducible rfl);rotate_left;simp only [Act.put, nA, nZ, nS, i64_w, i32_w];rfl;refine pure_ (i := 6) (N := some 64) (v := ?_) (a' := ?_) (bm 14 119) rfl rfl (by kernel_rfl) (fun _ _ _ h => h) (Or.inl ⟨by rfl, ?_⟩) ?_ ?_;rotate_left;intro w';go_simp;(with_reducible rfl);rotate_left;simp only [Act.put, nA, nZ, nS, i64_w, i32_w];rfl;refine pure_ (i := 7) (N := some 65) (v := ?_) (a' := ?_) (bm 14 247) rfl rfl (by kernel_rfl) (fun _ _ _ h => h) (Or.inl ⟨by rfl, ?_⟩) ?_ ?_;rotate_left;intro w';go_simp;(with_reducible rfl);rotate_left;simp only [Act.put, nA, nZ, nS, i64_w, i32_w];rfl;refine pure_ (i := 8) (N := some 66) (v := ?_) (a' := ?_) (bm 14 503) rfl rfl (by kernel_rfl) (fun _ _ _ h => h) (Or.inl ⟨by rfl, ?_⟩) ?_ ?_
  rotate_left;intro w';go_simp;(with_reducible rfl);rotate_left;simp only [Act.put, nA, nZ, nS, i64_w, i32_w];rfl;refine take_ (i := 3) (N := some 61) (v := ?_) (a' := ?_) (bm 14 511) rfl rfl (by kernel_rfl) (fun _ _ _ h => h) (Or.inl ⟨by rfl, ?_⟩) hHeld ?_ ?_;rotate_left;rintro w' ⟨s0, s1⟩;go_simp;(with_reducible rfl);rotate_left;simp only [Act.put, nA, nZ, nS, i64_w, i32_w];rfl;refine take_ (i := 9) (N := some 67) (v := ?_) (a' := ?_) (bm 14 1023) rfl rfl (by kernel_rfl) (fun _ _ _ h => h) (Or.inl ⟨by rfl, ?_⟩) hHeld ?_ ?_;rotate_left;rintro w' ⟨s0, s1⟩;go_simp;(with_reducible rfl);rotate_left;simp only [Act.put, nA, nZ, nS, i64_w, i32_w];rfl;refine one_ (i := 10) (N := some 68) (bm 14 2047) rfl rfl (by kernel_rfl) (by decide) (fun K hK => ?_);refine value_ (w1 := ?_) (v := ?_) (by rfl) rfl ?_ ?_;rotate_left 2
  ·
   go_simp;constructor
   ·
    rfl
   rfl
  refine hK.out _ _ ⟨pw_cell_below (below_one _ _) d1, pw_cell_below (below_one _ _) dy⟩ (fun hHeld => ?_);clear hK K;refine norm_ (a' := ?_) ?_ ?_;rotate_left
  ·
   show Act.put _ (some 68) _ = _
   simp only [Act.put, nA, nZ, nS, i64_w, i32_w];rfl
  refine last_ (i := 11) (N := some 69) (bm 14 4095) rfl rfl (by kernel_rfl) (by decide) (fun K hK => ?_);refine Kd.R_append_step Kd.string (w0 := W2) W2.heap.size (by rfl) (.tmp 61) (.tmp 68) 61 9 (.string ByteArray.empty) 16 rfl Tryz.underlying61 infoStr rfl (by decide) (by decide) _ (partsT u) y [.string y] (fun _ => True) (fun _ => False) rfl rfl ?aP (fun _ hk => hk.elim) ?aF ?aO ?aB ?aS ?aL ?_
  (case aP => exact rfl)
  (case aB => exact HW4.out.low)
  (case aF => exact (fun _ _ => trivial))
  (case aO => exact HW4.out.row)
  (case aS => exact HW4.out.low.size)
  (case aL => omega)
  intro v1 w5 ho hb5 hg5 hat5;have HO5 := Hi ho;have HB5 := Hi hb5;clear ho hb5 hg5 hat5;refine hK.out _ _ ?_;clear hK K;refine norm_ (a' := ?_) ?_ ?_;rotate_left
  ·
   show Act.put _ (some 69) _ = _
   simp only [Act.put, nA, nZ, nS, i64_w, i32_w];rfl
  refine last_ (i := 12) (N := some 70) (bm 14 8191) rfl rfl (by kernel_rfl) (by decide) (fun K hK => ?_);refine goes_ Tryz.func58 (by kernel_rfl) rfl #[v1, .string ⟨#[47]⟩] (by rfl) rfl rfl (by simp only [List.map_toArray, List.map_cons, List.map_nil]; rfl) ?_;with_reducible refine (HJ.out v1 W2.heap.size w5 HO5.out).mono ?_
  rintro e w6 ⟨rfl, hb6⟩;refine ⟨_, rfl, ?_⟩;have HB6 := Hi (below_next HB5.out hb6);clear hb6;refine hK.out _ _ ?_;clear hK K;refine norm_ (a' := ?_) ?_ ?_;rotate_left
  ·
   show Act.put _ (some 70) _ = _
   simp only [Act.put, nA, nZ, nS, i64_w, i32_w];rfl
  refine pure_ (i := 13) (N := some 13) (v := ?_) (a' := ?_) (bm 14 16383) rfl rfl (by kernel_rfl) (fun _ _ _ h => h) (Or.inl ⟨by rfl, ?_⟩) ?_ ?_;rotate_left;intro w';go_simp;(with_reducible rfl);rotate_left;simp only [Act.put, nA, nZ, nS, i64_w, i32_w];rfl;refine done_ (by kernel_rfl) ?_;have HB7 := Hi (below_next HB2.out HB6.out);clear HJ;generalize joinS u y = rl at *;generalize checkE rl = e2 at *
  by_cases he2 : e2 = 0
  ·
   subst he2;have HRR := Hi (HGO.out (fun h => h rfl))
   go_wp2_with fail
   refine (HCK2.out _ HB7).mono ?_;rintro e w8 ⟨rfl, HB8⟩;go_wp2;go_ret2;exact ⟨by rw [HRR.out]; rfl, HB8.out⟩
  have q0 : (e2 == 0) = false := beq_eq_false_iff_ne.2 he2;have q1 : (e2 != 0) = true := bne_iff_ne.2 he2;have HRR := Hi (HLO.out he2)
  go_wp2_with fail
  refine (HCK2.out _ HB7).mono ?_;rintro e w8 ⟨rfl, HB8⟩;go_wp2;go_ret2;exact ⟨by rw [HRR.out]; rfl, HB8.out⟩
 have q0 : (E == 0) = false := beq_eq_false_iff_ne.2 hE;have q1 : (E != 0) = true := bne_iff_ne.2 hE;have HRR := Hi (HER.out hE);go_wp2;refine start_ (n := 6) (S := fun w' => w'.cell? ⟨bw, 3, none⟩ = some (.int .i64 E)) (ds := []) (bm 6 0) (by kernel_rfl) rfl rfl (d3) (fun hHeld => ?_);refine pure_ (i := 0) (N := some 54) (v := ?_) (a' := ?_) (bm 6 1) rfl rfl (by kernel_rfl) (fun _ _ _ h => h) (Or.inl ⟨by rfl, ?_⟩) ?_ ?_;rotate_left;intro w';go_simp;(with_reducible rfl);rotate_left;simp only [Act.put, nA, nZ, nS, i64_w, i32_w];rfl;refine pure_ (i := 1) (N := some 55) (v := ?_) (a' := ?_) (bm 6 3) rfl rfl (by kernel_rfl) (fun _ _ _ h => h) (Or.inl ⟨by rfl, ?_⟩) ?_ ?_;rotate_left;intro w';go_simp;(with_reducible rfl);rotate_left;simp only [Act.put, nA, nZ, nS, i64_w, i32_w];rfl;refine pure_ (i := 2) (N := some 56) (v := ?_) (a' := ?_) (bm 6 7) rfl rfl (by kernel_rfl) (fun _ _ _ h => h) (Or.inl ⟨by rfl, ?_⟩) ?_ ?_;rotate_left;intro w';go_simp;(with_reducible rfl);rotate_left;simp only [Act.put, nA, nZ, nS, i64_w, i32_w];rfl;refine pure_ (i := 4) (N := some 4) (v := ?_) (a' := ?_) (bm 6 23) rfl rfl (by kernel_rfl) (fun _ _ _ h => h) (Or.inl ⟨by rfl, ?_⟩) ?_ ?_;rotate_left;intro w';go_simp;(with_reducible rfl);rotate_left;simp only [Act.put, nA, nZ, nS, i64_w, i32_w];rfl;refine take_ (i := 3) (N := some 57) (v := ?_) (a' := ?_) (bm 6 31) rfl rfl (by kernel_rfl) (fun _ _ _ h => h) (Or.inl ⟨by rfl, ?_⟩) hHeld ?_ ?_;rotate_left;intro w' s0;go_simp;(with_reducible rfl);rotate_left;simp only [Act.put, nA, nZ, nS, i64_w, i32_w];rfl;refine pure_ (i := 5) (N := some 5) (v := ?_) (a' := ?_) (bm 6 63) rfl rfl (by kernel_rfl) (fun _ _ _ h => h) (Or.inl ⟨by rfl, ?_⟩) ?_ ?_;rotate_left;intro w';go_simp;(with_reducible rfl);rotate_left;simp only [Act.put, nA, nZ, nS, i64_w, i32_w];rfl;refine done_ (by kernel_rfl) ?_;go_wp2;go_ret2;exact ⟨by rw [HRR.out]; rfl, below_drew HB4.out⟩
theorem real_any (s : List It) (W : World) (b : Nat) (path : ByteArray) (hS : Shown W b s) (hp : path.size ≤ 10000) :
  Calls Tryz.prog 16 #[.pointer (some ⟨b, 0, none⟩), .string path] W fun e w' => e = .returned (.tuple #[.string (realP s path).1, .int .i64 (realP s path).2]) ∧ Below W.heap.size W w' := by
 by_cases hb : checkE path ≠ 0 ∨ checkD path = true
 ·
  rw [real_bad hb];exact real_fell s W b path hS hp hb
 exact real_rest s W b path hS hp hb _ rfl
end Go.Proofs.YtibmfjacfbpfgaaGreatDoor.Real
