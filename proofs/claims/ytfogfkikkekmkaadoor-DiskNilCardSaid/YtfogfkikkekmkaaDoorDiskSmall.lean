/- disk: a disk's state in memory; begin, end, kind, full, New. -/
import Derived.Test.YtfogfkikkekmkaaDoorDiskReal
set_option linter.unusedVariables false
set_option linter.unusedSimpArgs false
namespace Go.Proofs.YtfogfkikkekmkaaDoor.DiskSmall
open Go.RowKit Go.Proofs.YtfogfkikkekmkaaDoorW.PrintWords Go.Proofs.YtfogfkikkekmkaaDoorW.PrintLast Go.Proofs.YtfogfkikkekmkaaDoorW.PrintMore Go.Proofs.YtfogfkikkekmkaaDoor.NameLaw Go.Proofs.YtfogfkikkekmkaaDoor.NameCmp Go.Proofs.YtfogfkikkekmkaaDoor.NameWalk Go.Proofs.YtfogfkikkekmkaaDoor.Item Go.Proofs.YtfogfkikkekmkaaDoor.DiskAt Go.Proofs.YtfogfkikkekmkaaDoor.DiskReal

/-- kind, path, to, node, sure -/
abbrev Ch := Int × ByteArray × ByteArray × (Int × Int × Int × Int × Int × Int × ByteArray) × Bool
abbrev chK : Kd Ch := Kd.pair (Kd.int .i64) (Kd.pair Kd.string (Kd.pair Kd.string (Kd.pair nodeK Kd.bool)))
/-- A disk: what lasts, what is shown, what waits; the limit, the fuse, the fail, the steps, off. -/
structure DAt (W : World) (n b : Nat) (vl vs vq : Value) (l s : List It) (q : List Ch) (lim fu fa st : Int) (off : Bool) : Prop where
  blk : W.heap[b]? = some (.cells #[vl, vs, vq, .int .i64 lim, .int .i64 fu, .int .i64 fa, .bool off, .int .i64 st] 69 (0, 0))
  rl : itemK.R 57 W n (fun k => some k ≠ vs.ownBlock) vl l
  rs : itemK.R 57 W n (fun _ => True) vs s
  rq : chK.R 71 W n (fun _ => True) vq q
  nb : n ≤ b
section
variable {W W1 : World} {n b : Nat} {vl vs vq : Value} {l s : List It} {q : List Ch} {lim fu fa st : Int} {off : Bool}
theorem DAt.lt (h : DAt W n b vl vs vq l s q lim fu fa st off) : b < W.heap.size := (Array.getElem?_eq_some_iff.1 h.blk).1
theorem DAt.below (h : DAt W n b vl vs vq l s q lim fu fa st off) (hb : Below W.heap.size W W1) : DAt W1 n b vl vs vq l s q lim fu fa st off :=
  ⟨(hb.block b h.lt).trans h.blk, Kd.R_below h.rl hb, Kd.R_below h.rs hb, Kd.R_below h.rq hb, h.nb⟩
theorem DAt.c0 (h : DAt W n b vl vs vq l s q lim fu fa st off) : W.cell? ⟨b, 0, none⟩ = some vl := by rw [cell_of h.blk]; rfl
theorem DAt.c1 (h : DAt W n b vl vs vq l s q lim fu fa st off) : W.cell? ⟨b, 1, none⟩ = some vs := by rw [cell_of h.blk]; rfl
theorem DAt.c2 (h : DAt W n b vl vs vq l s q lim fu fa st off) : W.cell? ⟨b, 2, none⟩ = some vq := by rw [cell_of h.blk]; rfl
theorem DAt.c3 (h : DAt W n b vl vs vq l s q lim fu fa st off) : W.cell? ⟨b, 3, none⟩ = some (.int .i64 lim) := by rw [cell_of h.blk]; rfl
theorem DAt.c4 (h : DAt W n b vl vs vq l s q lim fu fa st off) : W.cell? ⟨b, 4, none⟩ = some (.int .i64 fu) := by rw [cell_of h.blk]; rfl
theorem DAt.c5 (h : DAt W n b vl vs vq l s q lim fu fa st off) : W.cell? ⟨b, 5, none⟩ = some (.int .i64 fa) := by rw [cell_of h.blk]; rfl
theorem DAt.c6 (h : DAt W n b vl vs vq l s q lim fu fa st off) : W.cell? ⟨b, 6, none⟩ = some (.bool off) := by rw [cell_of h.blk]; rfl
theorem DAt.c7 (h : DAt W n b vl vs vq l s q lim fu fa st off) : W.cell? ⟨b, 7, none⟩ = some (.int .i64 st) := by rw [cell_of h.blk]; rfl
theorem frozen_of {w : World} {b : Nat} {cs : Array Value} {t : TypeId} (hb : w.heap[b]? = some (.cells cs t (0, 0))) (j : Nat) : w.frozen? ⟨b, j, none⟩ = false := by
  simp [World.frozen?, hb]
theorem DAt.fz (h : DAt W n b vl vs vq l s q lim fu fa st off) (j : Nat) : W.frozen? ⟨b, j, none⟩ = false := frozen_of h.blk j
/-- A cell of the disk's own block is written. -/
theorem DAt.put (h : DAt W n b vl vs vq l s q lim fu fa st off) (j : Nat) (u : Value) {lim' fu' fa' st' : Int} {off' : Bool}
    (e : (#[vl, vs, vq, .int .i64 lim, .int .i64 fu, .int .i64 fa, .bool off, .int .i64 st] : Array Value).setIfInBounds j u = #[vl, vs, vq, .int .i64 lim', .int .i64 fu', .int .i64 fa', .bool off', .int .i64 st']) :
    DAt (W.setCell ⟨b, j, none⟩ u) n b vl vs vq l s q lim' fu' fa' st' off' :=
  ⟨blk_put h.blk j u e, Kd.R_set h.rl h.blk (by decide) j u, Kd.R_set h.rs h.blk (by decide) j u, Kd.R_set h.rq h.blk (by decide) j u, h.nb⟩
theorem set_grown (w : World) (b j : Nat) (u : Value) : w.grownBy (w.setCell ⟨b, j, none⟩ u) (some b) :=
  ⟨rfl, rfl, rfl, by simp [World.setCell], fun k _ hk => Below.heap_setCell _ _ _ _ (fun e => hk (by rw [e]))⟩
theorem below_grown {n : Nat} {w wr w1 : World} (h : Below n w wr) {row : Option Nat} (hn : n ≤ w.heap.size) (hg : wr.grownBy w1 row) (hr : ∀ x, row = some x → n ≤ x) : Below n w w1 :=
  h.trans ⟨hg.os, hg.tape, hg.output, hg.size, fun k hk => hg.block k (by have := h.size; omega) (fun e => by have := hr k e.symm; omega)⟩
end
set_option maxHeartbeats 2000000 in
theorem begin_ok (b : Nat) (fu fa : Int) (W : World) (c4 : W.cell? ⟨b, 4, none⟩ = some (.int .i64 fu)) (c5 : W.cell? ⟨b, 5, none⟩ = some (.int .i64 fa)) (c6 : W.cell? ⟨b, 6, none⟩ = some (.bool false)) (h1 : fu ≠ 0) (h2 : fa < 1) :
    Calls Tryd.prog 55 #[.pointer (some ⟨b, 0, none⟩)] W fun e w' => e = .returned (.int .i64 0) ∧ Below W.heap.size W w' := by
  have q1 : (fu == 0) = false := beq_eq_false_iff_ne.2 h1
  have q2 : (fa == 1) = false := beq_eq_false_iff_ne.2 (by omega)
  have q3 : ¬ fa = 1 := by omega
  have q4 : ¬ (1 : Int) < fa := by omega
  go_enter Tryd.func55, Tryd.ntmps55
  go_wp2
  go_ret
  exact ⟨rfl, Below.refl _ _⟩
set_option maxHeartbeats 2000000 in
theorem end_ok (n b : Nat) (vl vs vq : Value) (l s : List It) (q : List Ch) (lim fu fa st : Int) (off : Bool) (W : World) (h : DAt W n b vl vs vq l s q lim fu fa st off) (h1 : fu ≤ 0) (h2 : 0 ≤ st) (h3 : st < 1000000) :
    Calls Tryd.prog 58 #[.pointer (some ⟨b, 0, none⟩)] W fun e w' => e = .returned (.int .i64 0) ∧ DAt w' n b vl vs vq l s q lim fu fa (st + 1) off ∧ W.grownBy w' (some b) := by
  have c4 := h.c4
  have c7 := h.c7
  have z7 := h.fz 7
  have HD := Lib.hid h
  have q4 : ¬ (0 : Int) < fu := by omega
  have hw : Go.RowKit.wrap64 (st + 1) = st + 1 := by unfold Go.RowKit.wrap64; omega
  clear h
  go_enter Tryd.func58, Tryd.ntmps58
  go_wp2
  go_ret
  exact ⟨rfl, HD.out.put 7 (.int .i64 (st + 1)) rfl, set_grown _ _ _ _⟩
set_option maxHeartbeats 2000000 in
theorem new_ok (lim : Int) (W : World) :
    Calls Tryd.prog 53 #[.int .i64 lim] W fun e w' => ∃ b, e = .returned (.pointer (some ⟨b, 0, none⟩)) ∧ DAt w' W.heap.size b (.slice none 0 0) (.slice none 0 0) (.slice none 0 0) [] [] [] lim (-1) 0 0 false ∧ Below W.heap.size W w' := by
  go_enter Tryd.func53, Tryd.ntmps53
  go_wp2
  go_ret
  exact ⟨_, rfl, ⟨heap_new _ _, Kd.R_nil _ _ _ _ _, Kd.R_nil _ _ _ _ _, Kd.R_nil _ _ _ _ _, Nat.le_refl _⟩, below_one _ _⟩
def kindP (s : List It) (p : ByteArray) : Int := if hereP s p then (s.getD (placeP s p) zIt).2.1 else 0
set_option maxHeartbeats 2000000 in
theorem kind_any (b : Nat) (s : List It) (A : Option Addr) (c : Nat) (p : ByteArray) (W : World) (hg : Glob W) (c1 : W.cell? ⟨b, 1, none⟩ = some (.slice A s.length c)) (hl : ItemC W A s) (hn : s.length ≤ 1000000) (hs : ∀ x ∈ s, x.1.size < 4294967281) (hp : p.size < 4294967281) (h0 : p.toList ≠ []) :
    Calls Tryd.prog 46 #[.pointer (some ⟨b, 0, none⟩), .string p] W fun e w' => e = .returned (.int .i64 (kindP s p)) ∧ Below W.heap.size W w' := by
  have HC := Lib.hid (at_any s A c p W hg hl hn hs hp)
  have HL := Lib.hid hl
  have hd2 : p.toList.isEmpty = false := by simp [h0]
  have HK := Lib.hid (show kindP s p = if hereP s p then (s.getD (placeP s p) zIt).2.1 else 0 from rfl)
  have HH := Lib.hid (show hereP s p = true → placeP s p < s.length by intro h; unfold hereP at h; rw [Bool.and_eq_true] at h; exact of_decide_eq_true h.1)
  generalize kindP s p = R at *
  generalize hereP s p = hh at *
  generalize placeP s p = r at *
  clear hg hl hs
  cases hh with
  | false =>
    go_enter Tryd.func46, Tryd.ntmps46
    go_wp2_with (go_at_call 45; refine HC.out.mono ?_; rintro e w1 ⟨rfl, hb⟩; have HB := Lib.hid hb; clear hb)
    go_ret
    exact ⟨by rw [HK.out]; rfl, HB.out⟩
  | true =>
    have hr := HH.out rfl
    have hrI : (r : Int) < (s.length : Int) := by omega
    obtain ⟨ad, rfl, e0, e1, e2, e3, e4, e5, e6, e7⟩ := item_at HL.out hr
    have hk := HK.out
    rw [if_pos rfl, DiskAt.get_at s zIt r hr] at hk
    clear HK
    generalize s[r] = x at *
    obtain ⟨pa, kd, mo, ui, gi, mt, at_, da⟩ := x
    simp only at e0 e1 e2 e3 e4 e5 e6 e7 hk
    have HK := Lib.hid hk
    clear hk
    go_enter Tryd.func46, Tryd.ntmps46
    go_wp2_with fail
    refine HC.out.mono ?_
    rintro e w1 ⟨rfl, hb⟩
    have HB := Lib.hid hb
    have d1 := pw_cell_below hb c1
    have f1 := pw_cell_below hb e1
    clear hb c1 e0 e1 e2 e3 e4 e5 e6 e7
    go_wp2
    go_ret
    exact ⟨by rw [HK.out]; rfl, HB.out⟩
def sumP (p : ByteArray) : List It → Int
  | [] => 0
  | x :: t => (if x.1 = p then 0 else (x.2.2.2.2.2.2.2.size : Int)) + sumP p t
theorem sum_cons (p : ByteArray) (x : It) (t : List It) : sumP p (x :: t) = (if x.1 = p then 0 else (x.2.2.2.2.2.2.2.size : Int)) + sumP p t := rfl
theorem sum_bound (p : ByteArray) : ∀ (s : List It), (∀ x ∈ s, x.2.2.2.2.2.2.2.size ≤ 1000000) → 0 ≤ sumP p s ∧ sumP p s ≤ 1000000 * s.length
  | [], _ => by simp [sumP]
  | x :: t, h => by
    have h1 := sum_bound p t (fun y hy => h y (List.mem_cons_of_mem _ hy))
    have h2 := h x (by simp)
    unfold sumP
    rw [List.length_cons]
    split <;> omega
set_option maxHeartbeats 2000000 in
theorem full_any (b : Nat) (s : List It) (A : Option Addr) (c : Nat) (p : ByteArray) (m lim : Int) (W : World) (c1 : W.cell? ⟨b, 1, none⟩ = some (.slice A s.length c)) (c3 : W.cell? ⟨b, 3, none⟩ = some (.int .i64 lim)) (hl : ItemC W A s) (hn : s.length ≤ 1000000) (hs : ∀ x ∈ s, x.2.2.2.2.2.2.2.size ≤ 1000000) (hm : 0 ≤ m) (hm2 : m ≤ 1000000) :
    Calls Tryd.prog 56 #[.pointer (some ⟨b, 0, none⟩), .string p, .int .i64 m] W fun e w' => e = .returned (.bool (decide (lim < m + sumP p s))) ∧ Below W.heap.size W w' := by
  have HL := Lib.hid hl
  have HS := Lib.hid hs
  have HC3 := Lib.hid c3
  have hbd := sum_bound p s hs
  have HSB := Lib.hid hbd
  obtain ⟨R, hR⟩ : ∃ R, R = m + sumP p s := ⟨_, rfl⟩
  have HR0 := Lib.hid (show m + sumP p (s.drop 0) = R from hR.symm)
  have hRb : 0 ≤ R ∧ R ≤ 1000000000001000000 := by omega
  rw [← hR]
  clear hR hl hs hbd c3
  go_enter Tryd.func56, Tryd.ntmps56
  go_wp2
  go_loopw [7, 16] (fun v i wr => ∃ (k : Nat) (a : Int), k ≤ s.length ∧ i = .int .i64 k ∧ v = .int .i64 a ∧ 0 ≤ a ∧ a ≤ 1000000 * k + 1000000 ∧ Hid (a + sumP p (s.drop k) = R) ∧ Hid (Below W.heap.size W wr)) (fun v i _ => s.length - (intOf i).toNat)
  case atStart => exact ⟨0, m, by omega, rfl, rfl, hm, by omega, HR0, Lib.hid (Below.refl _ _)⟩
  case round =>
    clear HR0
    obtain ⟨k, a, hk, rfl, rfl, ha0, ha1, HR, HB⟩ := hrel
    by_cases hlt : k < s.length
    · obtain ⟨ad, rfl, e0, e1, e2, e3, e4, e5, e6, e7⟩ := item_at (Kd.C_below HL.out HB.out) hlt
      have hltI : (k : Int) < s.length := by omega
      have hR := HR.out
      rw [List.drop_eq_getElem_cons hlt] at hR
      have hsz := HS.out _ (List.getElem_mem hlt)
      clear HR
      generalize s[k] = x at *
      obtain ⟨pa, kd, mo, ui, gi, mt, at_, da⟩ := x
      simp only at e0 e1 e2 e3 e4 e5 e6 e7 hsz
      rw [sum_cons] at hR
      (try simp only at hR)
      have HB3 := Lib.hid (HB.out.alloc HB.out.size (.cells #[.string pa, .int .i64 kd, .int .u32 mo, .int .u32 ui, .int .u32 gi, .int .i64 mt, .int .i64 at_, .string da] 57))
      by_cases hp : pa = p
      · rw [if_pos hp] at hR
        subst hp
        have HR := Lib.hid (show a + sumP pa (s.drop (k + 1)) = R by omega)
        have ql : (pa.toList == pa.toList) = true := by simp
        clear hR
        go_wp2
        go_roundw
        case rel => exact ⟨k + 1, a, by omega, by go_num, rfl, ha0, by omega, HR, HB3⟩
        case measure => simp [intOf]; omega
      · rw [if_neg hp] at hR
        have HR := Lib.hid (show (a + (da.size : Int)) + sumP p (s.drop (k + 1)) = R by omega)
        have ql : (pa.toList == p.toList) = false := by rw [toList_inj]; exact decide_eq_false hp
        have hw : Go.RowKit.wrap64 (a + (da.size : Int)) = a + (da.size : Int) := by unfold Go.RowKit.wrap64; omega
        clear hR
        go_wp2
        go_roundw
        case rel => exact ⟨k + 1, a + (da.size : Int), by omega, by go_num, rfl, by omega, by omega, HR, HB3⟩
        case measure => simp [intOf]; omega
    · have HS2 := Lib.hid (show a = R by rw [← HR.out, List.drop_of_length_le (by omega)]; simp [sumP])
      have d3 := pw_cell_below HB.out HC3.out
      go_wp2
      go_ret
      exact ⟨by rw [HS2.out]; rfl, HB.out⟩
end Go.Proofs.YtfogfkikkekmkaaDoor.DiskSmall
