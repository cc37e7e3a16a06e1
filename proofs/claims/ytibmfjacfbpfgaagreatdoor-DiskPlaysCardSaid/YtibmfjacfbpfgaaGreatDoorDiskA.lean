/- disk: a disk's state in memory; begin, end, New, Fuse, Fail, Waits, Steps. -/
import Derived.Test.YtibmfjacfbpfgaaGreatDoorStepG
import Derived.Test.YtibmfjacfbpfgaaGreatDoorTreeQ
import Derived.Laws.IdiomCopy
import Derived.Maps.AppendAt
set_option maxHeartbeats 32000000
set_option maxRecDepth 100000
set_option linter.unusedVariables false
set_option linter.unusedSimpArgs false
namespace Go.Proofs.YtibmfjacfbpfgaaGreatDoor.DSmall
open Go.RowKit YtibmfjacfbpfgaaGreatDoorW PrintWords PrintLast PrintMore NameLaw NameCmp NameWalk YtibmfjacfbpfgaaGreatDoor.Item Own TreeLaw SortIns SortSwap FillLaw RealLaw DoneLaw OpLaw OpKeep StepA Raw TreeFn TreeDel
abbrev chK : Kd Chg := Kd.pair (Kd.int .i64) (Kd.pair Kd.string (Kd.pair Kd.string (Kd.pair nodeK Kd.bool)))
theorem infoCh : (Tryz.prog.info? 93).map (fun i => (i.zero, i.size, i.bytes)) = some (some (.agg #[.int .i64 0, .string ByteArray.empty, .string ByteArray.empty, .int .i64 0, .int .u32 0, .int .u32 0, .int .u32 0, .int .i64 0, .int .i64 0, .string ByteArray.empty, .bool false]), 11, 104) := by kernel_rfl
theorem chK_M (W : World) (n : Nat) (ok : Nat → Prop) (kk : Int) (pa tp : ByteArray) (kd mo ui gi mt at_ : Int) (da : ByteArray) (su : Bool) : chK.M W n ok (kk, pa, tp, (kd, mo, ui, gi, mt, at_, da), su) [.int .i64 kk, .string pa, .string tp, .int .i64 kd, .int .u32 mo, .int .u32 ui, .int .u32 gi, .int .i64 mt, .int .i64 at_, .string da, .bool su] :=
 ⟨[_], _, rfl, rfl, [_], _, rfl, rfl, [_], _, rfl, rfl, [.int .i64 kd, .int .u32 mo, .int .u32 ui, .int .u32 gi, .int .i64 mt, .int .i64 at_, .string da], [_], rfl,
  ⟨[_], _, rfl, rfl, [_], _, rfl, rfl, [_], _, rfl, rfl, [_], _, rfl, rfl, [_], _, rfl, rfl, [_], [_], rfl, rfl, rfl⟩, rfl⟩
structure DAt (W : World) (n b : Nat) (vl vs vq : Value) (l s : List It) (q : List Chg) (lim fu fa st : Int) (off : Bool) : Prop where
 blk : W.heap[b]? = some (.cells #[vl, vs, vq, .int .i64 lim, .int .i64 fu, .int .i64 fa, .bool off, .int .i64 st] 84 (0, 0))
 rl : itemK.R 77 W n (fun k => some k ≠ vs.ownBlock) vl l
 rs : itemK.R 77 W n (fun _ => True) vs s
 rq : chK.R 93 W n (fun _ => True) vq q
 nb : n ≤ b
section
variable {W W1 : World} {n b : Nat} {vl vs vq : Value} {l s : List It} {q : List Chg} {lim fu fa st : Int} {off : Bool}
theorem DAt.lt (h : DAt W n b vl vs vq l s q lim fu fa st off) : b < W.heap.size := (Array.getElem?_eq_some_iff.1 h.blk).1
theorem DAt.below (h : DAt W n b vl vs vq l s q lim fu fa st off) (hb : Below W.heap.size W W1) : DAt W1 n b vl vs vq l s q lim fu fa st off :=
 ⟨(hb.block b h.lt).trans h.blk, Kd.R_below h.rl hb, Kd.R_below h.rs hb, Kd.R_below h.rq hb, h.nb⟩
theorem DAt.c0 (h : DAt W n b vl vs vq l s q lim fu fa st off) : W.cell? ⟨b, 0, none⟩ = some vl := by rw [cell_of h.blk]; rfl
theorem DAt.c1 (h : DAt W n b vl vs vq l s q lim fu fa st off) : W.cell? ⟨b, 1, none⟩ = some vs := by rw [cell_of h.blk]; rfl
theorem DAt.c2 (h : DAt W n b vl vs vq l s q lim fu fa st off) : W.cell? ⟨b, 2, none⟩ = some vq := by rw [cell_of h.blk]; rfl
theorem DAt.c3 (h : DAt W n b vl vs vq l s q lim fu fa st off) : W.cell? ⟨b, 3, none⟩ = some (.int .i64 lim) := by rw [cell_of h.blk]; rfl
theorem DAt.c4 (h : DAt W n b vl vs vq l s q lim fu fa st off) : W.cell? ⟨b, 4, none⟩ = some (.int .i64 fu) := by rw [cell_of h.blk]; rfl
theorem DAt.c5 (h : DAt W n b vl vs vq l s q lim fu fa st off) : W.cell? ⟨b, 5, none⟩ = some (.int .i64 fa) := by rw [cell_of h.blk]; rfl
theorem DAt.c6 (h : DAt W n b vl vs vq l s q lim fu fa st off) : W.cell? ⟨b, 6, none⟩ = some (.bool off) := by rw [cell_of h.blk]; rfl
theorem DAt.c7 (h : DAt W n b vl vs vq l s q lim fu fa st off) : W.cell? ⟨b, 7, none⟩ = some (.int .i64 st) := by rw [cell_of h.blk]; rfl
theorem DAt.fz (h : DAt W n b vl vs vq l s q lim fu fa st off) (j : Nat) : W.frozen? ⟨b, j, none⟩ = false := frozen_of h.blk j
theorem DAt.put (h : DAt W n b vl vs vq l s q lim fu fa st off) (j : Nat) (u : Value) {lim' fu' fa' st' : Int} {off' : Bool}
  (e : (#[vl, vs, vq, .int .i64 lim, .int .i64 fu, .int .i64 fa, .bool off, .int .i64 st] : Array Value).setIfInBounds j u = #[vl, vs, vq, .int .i64 lim', .int .i64 fu', .int .i64 fa', .bool off', .int .i64 st']) :
  DAt (W.setCell ⟨b, j, none⟩ u) n b vl vs vq l s q lim' fu' fa' st' off' :=
 ⟨blk_put h.blk j u e, Kd.R_set h.rl h.blk (by decide) j u, Kd.R_set h.rs h.blk (by decide) j u, Kd.R_set h.rq h.blk (by decide) j u, h.nb⟩
end
abbrev DkAt (W : World) (n b : Nat) (vl vs vq : Value) (d : Dk) : Prop := DAt W n b vl vs vq d.base d.shows d.waits d.limit d.fuse d.fail d.steps d.off
def Owns (b : Nat) (vl vs vq : Value) (k : Nat) : Prop := k = b ∨ vl.ownBlock = some k ∨ vs.ownBlock = some k ∨ vq.ownBlock = some k
structure Still (W w' : World) (S T : Nat → Prop) : Prop where
 os : w'.os = W.os
 tape : w'.tape = W.tape
 output : w'.output = W.output
 size : W.heap.size ≤ w'.heap.size
 block : ∀ k, k < W.heap.size → ¬ S k → w'.heap[k]? = W.heap[k]?
 own : ∀ k, T k → S k ∨ W.heap.size ≤ k
theorem Still.trans {W W1 W2 : World} {S S1 S2 : Nat → Prop} (h : Still W W1 S S1) (k : Still W1 W2 S1 S2) : Still W W2 S S2 :=
 ⟨k.os.trans h.os, k.tape.trans h.tape, k.output.trans h.output, Nat.le_trans h.size k.size, fun j hj hs => (k.block j (Nat.lt_of_lt_of_le hj h.size) (fun e => (h.own j e).elim hs (fun g => by omega))).trans (h.block j hj hs),
  fun j hj => (k.own j hj).elim (h.own j) (fun g => .inr (Nat.le_trans h.size g))⟩
theorem Still.refl (W : World) (S : Nat → Prop) : Still W W S S := ⟨rfl, rfl, rfl, Nat.le_refl _, fun _ _ _ => rfl, fun _ h => .inl h⟩
theorem Still.below {W W1 : World} (hb : Below W.heap.size W W1) (S : Nat → Prop) : Still W W1 S S := ⟨hb.os, hb.tape, hb.output, hb.size, fun k hk _ => hb.block k hk, fun _ h => .inl h⟩
theorem Still.grown {W W1 : World} {o : Option Nat} {S T : Nat → Prop} (hg : W.grownBy W1 o) (ho : ∀ k, o = some k → S k) (ht : ∀ k, T k → S k ∨ W.heap.size ≤ k) : Still W W1 S T :=
 ⟨hg.os, hg.tape, hg.output, hg.size, fun k hk hs => hg.block k hk (fun e => hs (ho k e.symm)), ht⟩
theorem Still.low {W0 W W1 : World} {S T : Nat → Prop} {n : Nat} (hk : Still W W1 S T) (hb : Below n W0 W) (hn : n ≤ W0.heap.size) (hs : ∀ k, S k → n ≤ k) : Below n W0 W1 :=
 hb.trans ⟨hk.os, hk.tape, hk.output, hk.size, fun k hlt => hk.block k (by have := hb.size; omega) (fun e => by have := hs k e; omega)⟩
theorem owns_base {W : World} {n b : Nat} {vl vs vq : Value} {l s : List It} {q : List Chg} {lim fu fa st : Int} {off : Bool} (h : DAt W n b vl vs vq l s q lim fu fa st off) : ∀ k, Owns b vl vs vq k → n ≤ k := by
 intro k hk
 rcases hk with e | e | e | e
 ·
  rw [e]; exact h.nb
 ·
  obtain ⟨inner, hown⟩ := Kd.R_own h.rl; exact own_base hown k e
 ·
  obtain ⟨inner, hown⟩ := Kd.R_own h.rs; exact own_base hown k e
 obtain ⟨inner, hown⟩ := Kd.R_own h.rq; exact own_base hown k e
theorem owns_lt {W : World} {n b : Nat} {vl vs vq : Value} {l s : List It} {q : List Chg} {lim fu fa st : Int} {off : Bool} (h : DAt W n b vl vs vq l s q lim fu fa st off) : ∀ k, Owns b vl vs vq k → k < W.heap.size := by
 intro k hk
 rcases hk with e | e | e | e
 ·
  rw [e]; exact h.lt
 ·
  exact Kd.R_lt h.rl k e
 ·
  exact Kd.R_lt h.rs k e
 exact Kd.R_lt h.rq k e
theorem R_stillS {α : Type} {d : Kd α} (hE : d.E = []) {e base : Nat} {ok : Nat → Prop} {W W1 : World} {v : Value} {xs : List α} {S T : Nat → Prop} (h : d.R e W base ok v xs) (hk : Still W W1 S T) (hs : ∀ k, v.ownBlock = some k → ¬ S k) : d.R e W1 base ok v xs :=
 Kd.R_mono (Kd.R_step (Kd.R_tight2 hE h) (fun k ho hlt => hk.block k hlt (hs k ho.1.symm))) (fun _ hk => hk.2)
theorem DAt.still {W W1 : World} {n b : Nat} {vl vs vq : Value} {l s : List It} {q : List Chg} {lim fu fa st : Int} {off : Bool} {S T : Nat → Prop} (h : DAt W n b vl vs vq l s q lim fu fa st off) (hk : Still W W1 S T) (hs : ∀ k, Owns b vl vs vq k → ¬ S k) : DAt W1 n b vl vs vq l s q lim fu fa st off := by
 refine ⟨(hk.block b h.lt (hs b (.inl rfl))).trans h.blk, ?_, ?_, ?_, h.nb⟩
 ·
  exact R_stillS rfl h.rl hk (fun k e => hs k (.inr (.inl e)))
 ·
  exact R_stillS rfl h.rs hk (fun k e => hs k (.inr (.inr (.inl e))))
 exact R_stillS rfl h.rq hk (fun k e => hs k (.inr (.inr (.inr e))))
def RowPost (n : Nat) (W w' : World) (v v1 : Value) (s1 : List It) : Prop :=
 itemK.R 77 w' n (fun _ => True) v1 s1 ∧ W.grownBy w' v.ownBlock ∧ (v1.ownBlock = v.ownBlock ∨ ∃ b, v1.ownBlock = some b ∧ W.heap.size ≤ b)
theorem RowPost.pre {n : Nat} {W W1 w' : World} {v v1 : Value} {s1 : List It} (hb : Below W.heap.size W W1) (h : RowPost n W1 w' v v1 s1) : RowPost n W w' v v1 s1 :=
 ⟨h.1, grown_trans ⟨hb.os, hb.tape, hb.output, hb.size, fun k hk _ => hb.block k hk⟩ h.2.1, h.2.2.imp id (fun ⟨b, h1, h2⟩ => ⟨b, h1, Nat.le_trans hb.size h2⟩)⟩
theorem RowPost.two {n : Nat} {W W1 w' : World} {v v1 v2 : Value} {s1 s2 : List It} (h : RowPost n W W1 v v1 s1) (k : RowPost n W1 w' v1 v2 s2) : RowPost n W w' v v2 s2 := by
 refine ⟨k.1, ⟨k.2.1.os.trans h.2.1.os, k.2.1.tape.trans h.2.1.tape, k.2.1.output.trans h.2.1.output, Nat.le_trans h.2.1.size k.2.1.size, fun j hj hne => ?_⟩, ?_⟩
 ·
  rw [← h.2.1.block j hj hne];refine k.2.1.block j (Nat.lt_of_lt_of_le hj h.2.1.size) (fun e => ?_)
  rcases h.2.2 with o | ⟨b, o, hb⟩
  ·
   exact hne (e.trans o)
  rw [o] at e; injection e with e; omega
 rcases k.2.2 with o | ⟨b, o, hb⟩
 ·
  rcases h.2.2 with p | ⟨b2, p, hb2⟩
  ·
   exact .inl (o.trans p)
  exact .inr ⟨b2, o.trans p, hb2⟩
 exact .inr ⟨b, o, Nat.le_trans h.2.1.size hb⟩
theorem RowPost.low {n : Nat} {W0 W w' : World} {v v1 : Value} {s s1 : List It} (h : RowPost n W w' v v1 s1) (hb : Below n W0 W) (hn : n ≤ W0.heap.size) (hr : itemK.R 77 W n (fun _ => True) v s) : Below n W0 w' :=
 below_grown hb hn h.2.1 (fun x hx => by obtain ⟨inner, hown⟩ := Kd.R_own hr; exact own_base hown x hx)
theorem below_of_grown {n : Nat} {W0 W W1 : World} (hb : Below n W0 W) (hn : n ≤ W0.heap.size) {o : Option Nat} (hg : W.grownBy W1 o) (ho : ∀ x, o = some x → n ≤ x) : Below n W0 W1 := below_grown hb hn hg ho
theorem begin_any (n b : Nat) (vl vs vq : Value) (d : Dk) (W : World) (h : DkAt W n b vl vs vq d) (hfu : d.fuse ≤ 9223372036854775807) (hfa : d.fail ≤ 9223372036854775807) :
  Calls Tryz.prog 53 #[.pointer (some ⟨b, 0, none⟩)] W fun e w' => e = .returned (.int .i64 (beginD d).1) ∧ DkAt w' n b vl vs vq (beginD d).2 ∧ W.grownBy w' (some b) := by
 obtain ⟨base, waits, limit, fuse, fail, off, steps⟩ := d;have h : DAt W n b vl vs vq base (waits.foldl doneP base) waits limit fuse fail steps off := h
 show Calls Tryz.prog 53 #[.pointer (some ⟨b, 0, none⟩)] W fun e w' => e = .returned (.int .i64 (beginD ⟨base, waits, limit, fuse, fail, off, steps⟩).1) ∧ DkAt w' n b vl vs vq (beginD ⟨base, waits, limit, fuse, fail, off, steps⟩).2 ∧ W.grownBy w' (some b)
 have c4 := h.c4;have c5 := h.c5;have c6 := h.c6;have z5 := h.fz 5;have z6 := h.fz 6;have HD := Hi h;clear h;simp only at hfu hfa;unfold beginD
 cases off with
 | true =>
  rw [if_pos rfl];go_enter Tryz.func53, Tryz.ntmps53;go_wp2;go_ret;exact ⟨rfl, HD.out, grown_refl _ _⟩
 | false =>
  rw [if_neg (fun e : (Dk.mk base waits limit fuse fail false steps).off = true => by cases e)]
  by_cases h0 : fuse = 0
  ·
   subst h0;rw [if_pos rfl];go_enter Tryz.func53, Tryz.ntmps53;go_wp2;go_ret;exact ⟨rfl, HD.out.put 6 (.bool true) rfl, set_grown _ _ _ _⟩
  have q0 : (fuse == 0) = false := beq_eq_false_iff_ne.2 h0;rw [if_neg h0]
  by_cases h1 : fail = 1
  ·
   subst h1;rw [if_pos rfl];go_enter Tryz.func53, Tryz.ntmps53;go_wp2;go_ret;exact ⟨rfl, HD.out.put 5 (.int .i64 0) rfl, set_grown _ _ _ _⟩
  have q1 : (fail == 1) = false := beq_eq_false_iff_ne.2 h1;rw [if_neg h1]
  by_cases h2 : 1 < fail
  ·
   have hw : Go.RowKit.wrap64 (fail - 1) = fail - 1 := by unfold Go.RowKit.wrap64; omega
   rw [if_pos h2];go_enter Tryz.func53, Tryz.ntmps53;go_wp2;go_ret;exact ⟨rfl, HD.out.put 5 (.int .i64 (fail - 1)) rfl, set_grown _ _ _ _⟩
  rw [if_neg h2];go_enter Tryz.func53, Tryz.ntmps53;go_wp2;go_ret;exact ⟨rfl, HD.out, grown_refl _ _⟩
theorem end_any (n b : Nat) (vl vs vq : Value) (l s : List It) (q : List Chg) (lim fu fa st : Int) (off : Bool) (W : World) (h : DAt W n b vl vs vq l s q lim fu fa st off) (h1 : fu ≤ 9223372036854775807) (h2 : 0 ≤ st) (h3 : st < 1000000) :
  Calls Tryz.prog 54 #[.pointer (some ⟨b, 0, none⟩)] W fun e w' => e = .returned (.int .i64 0) ∧ DAt w' n b vl vs vq l s q lim (if 0 < fu then fu - 1 else fu) fa (st + 1) off ∧ W.grownBy w' (some b) := by
 have c4 := h.c4;have c7 := h.c7;have z4 := h.fz 4;have z7 := h.fz 7;have HD := Hi h;have hw : Go.RowKit.wrap64 (st + 1) = st + 1 := by unfold Go.RowKit.wrap64; omega
 have HP := Hi (h.put 7 (.int .i64 (st + 1)) rfl);have p4 := HP.out.c4;have y4 := HP.out.fz 4;clear h
 by_cases h4 : 0 < fu
 ·
  have hw2 : Go.RowKit.wrap64 (fu - 1) = fu - 1 := by unfold Go.RowKit.wrap64; omega
  rw [if_pos h4];go_enter Tryz.func54, Tryz.ntmps54;go_wp2;go_ret;exact ⟨rfl, HP.out.put 4 (.int .i64 (fu - 1)) rfl, grown_trans (set_grown _ _ _ _) (set_grown _ _ _ _)⟩
 rw [if_neg h4];go_enter Tryz.func54, Tryz.ntmps54;go_wp2;go_ret;exact ⟨rfl, HP.out, set_grown _ _ _ _⟩
theorem new_any (lim : Int) (W : World) :
  Calls Tryz.prog 10 #[.int .i64 lim] W fun e w' => e = .returned (.pointer (some ⟨W.heap.size, 0, none⟩)) ∧ DkAt w' W.heap.size W.heap.size (.slice none 0 0) (.slice none 0 0) (.slice none 0 0) ⟨[], [], lim, -1, 0, false, 0⟩ ∧ Below W.heap.size W w' := by
 go_enter Tryz.func10, Tryz.ntmps10;go_wp2;go_ret;exact ⟨rfl, ⟨heap_new _ _, Kd.R_nil _ _ _ _ _, Kd.R_nil _ _ _ _ _, Kd.R_nil _ _ _ _ _, Nat.le_refl _⟩, below_one _ _⟩
theorem fuse_any (n b : Nat) (vl vs vq : Value) (d : Dk) (m : Int) (W : World) (h : DkAt W n b vl vs vq d) :
  Calls Tryz.prog 46 #[.pointer (some ⟨b, 0, none⟩), .int .i64 m] W fun e w' => e = .returned (.tuple #[]) ∧ DkAt w' n b vl vs vq { d with fuse := max m (-1) } ∧ W.grownBy w' (some b) := by
 have c4 := h.c4;have z4 := h.fz 4;have HD := Hi h;have HP := Hi (h.put 4 (.int .i64 (max m (-1))) rfl);clear h;go_enter Tryz.func46, Tryz.ntmps46;go_wp2;go_end0;exact ⟨rfl, HP.out, set_grown _ _ _ _⟩
theorem fail_any (n b : Nat) (vl vs vq : Value) (d : Dk) (m : Int) (W : World) (h : DkAt W n b vl vs vq d) :
  Calls Tryz.prog 47 #[.pointer (some ⟨b, 0, none⟩), .int .i64 m] W fun e w' => e = .returned (.tuple #[]) ∧ DkAt w' n b vl vs vq { d with fail := max m 0 } ∧ W.grownBy w' (some b) := by
 have c5 := h.c5;have z5 := h.fz 5;have HD := Hi h;have HP := Hi (h.put 5 (.int .i64 (max m 0)) rfl);clear h;go_enter Tryz.func47, Tryz.ntmps47;go_wp2;go_end0;exact ⟨rfl, HP.out, set_grown _ _ _ _⟩
theorem waits_any (n b : Nat) (vl vs vq : Value) (d : Dk) (W : World) (h : DkAt W n b vl vs vq d) : Calls Tryz.prog 24 #[.pointer (some ⟨b, 0, none⟩)] W fun e w' => e = .returned (.int .i64 d.waits.length) ∧ Below W.heap.size W w' := by
 obtain ⟨A, c, rfl⟩ := Kd.R_slice h.rq;have c2 := h.c2;clear h;go_enter Tryz.func24, Tryz.ntmps24;go_wp2;go_ret;exact ⟨rfl, Below.refl _ _⟩
theorem steps_any (n b : Nat) (vl vs vq : Value) (d : Dk) (W : World) (h : DkAt W n b vl vs vq d) : Calls Tryz.prog 25 #[.pointer (some ⟨b, 0, none⟩)] W fun e w' => e = .returned (.int .i64 d.steps) ∧ Below W.heap.size W w' := by
 have c7 := h.c7;clear h;go_enter Tryz.func25, Tryz.ntmps25;go_wp2;go_ret;exact ⟨rfl, Below.refl _ _⟩
section
variable {W W1 : World} {n b : Nat} {vl vs vq : Value} {l s : List It} {q : List Chg} {lim fu fa st : Int} {off : Bool}
theorem dshows (h : DAt W n b vl vs vq l s q lim fu fa st off) {v1 : Value} {s1 : List It} (hp : RowPost n W W1 vs v1 s1) : DAt (W1.setCell ⟨b, 1, none⟩ v1) n b vl v1 vq l s1 q lim fu fa st off := by
 have hbn : some b ≠ vs.ownBlock := Kd.R_ne h.rs h.blk (by decide);have at1 := (hp.2.1.block b h.lt hbn).trans h.blk;refine ⟨blk_put at1 1 v1 rfl, Kd.R_set ?_ at1 (by decide) 1 v1, Kd.R_set hp.1 at1 (by decide) 1 v1, Kd.R_set ?_ at1 (by decide) 1 v1, h.nb⟩
 ·
  refine Kd.R_mono (Kd.R_grown (Kd.R_bound h.rl) hp.2.1 (fun k hk => hk.1)) (fun k hk => ?_)
  rcases hp.2.2 with e | ⟨b2, e, hle⟩
  ·
   rw [e]; exact hk.1
  rw [e];intro h1;injection h1 with h1
  have := hk.2.2.1;omega
 refine Kd.R_grown2 h.rq rfl hp.2.1 (fun k hk => ?_);obtain ⟨inner, ho⟩ := Kd.R_own h.rs;obtain ⟨cells, hc⟩ := own_typed ho k hk;exact Kd.R_ne h.rq hc (by decide)
theorem dwaits (h : DAt W n b vl vs vq l s q lim fu fa st off) {v1 : Value} {q1 : List Chg} (hr : chK.R 93 W1 n (fun _ => True) v1 q1) (hg : W.grownBy W1 vq.ownBlock) : DAt (W1.setCell ⟨b, 2, none⟩ v1) n b vl vs v1 l s q1 lim fu fa st off := by
 have hbn : some b ≠ vq.ownBlock := Kd.R_ne h.rq h.blk (by decide);have at1 := (hg.block b h.lt hbn).trans h.blk
 have hne : ∀ (v : Value) (xs : List It) (ok : Nat → Prop), itemK.R 77 W n ok v xs → ∀ k, vq.ownBlock = some k → some k ≠ v.ownBlock := fun v xs ok hv k hk => by
  obtain ⟨inner, ho⟩ := Kd.R_own h.rq;obtain ⟨cells, hc⟩ := own_typed ho k hk;exact Kd.R_ne hv hc (by decide)
 exact ⟨blk_put at1 2 v1 rfl, Kd.R_set (Kd.R_grown2 h.rl rfl hg (hne _ _ _ h.rl)) at1 (by decide) 2 v1, Kd.R_set (Kd.R_grown2 h.rs rfl hg (hne _ _ _ h.rs)) at1 (by decide) 2 v1, Kd.R_set hr at1 (by decide) 2 v1, h.nb⟩
end
end Go.Proofs.YtibmfjacfbpfgaaGreatDoor.DSmall
namespace Go.Proofs.YtibmfjacfbpfgaaGreatDoor.DRows
open Go.RowKit YtibmfjacfbpfgaaGreatDoorW PrintWords PrintLast PrintMore NameLaw NameCmp NameWalk YtibmfjacfbpfgaaGreatDoor.Item Own Raw TreeLaw SortSwap SortIns TreeFn TreeDel TreeIns FillLaw RealLaw DoneLaw OpLaw StepA DSmall
theorem run_append_tree {W : World} {n g c N i : Nat} {l : List It} {cur : List Value} (h : RawAt W n g c cur) (hN : N ≤ 1000000) (hi : i < N) (hcN : N ≤ c) (hc : c < N + 1) (hl : l.length = N) (he : cur.take (N * 8) = flat l) (hn : n ≤ W.heap.size) (k : Int) (hk : k = ((N + 1 - i : Nat) : Int)) (ty : TypeId) :
  ∃ g2 c2 W2 cur2, (Builtin.append_ #[81, 3] ty #[.slice (some ⟨g, 0, none⟩) i c, .int .i64 k]).run Tryz.prog W = .ok (.slice (some ⟨g2, 0, none⟩) (N + 1) c2) W2 ∧ RawAt W2 n g2 c2 cur2 ∧ N + 1 ≤ c2 ∧ cur2.take (i * 8) = flat (l.take i) ∧ Below W.heap.size W W2 ∧ W.heap.size ≤ g2 := by
 obtain ⟨i0, hi0, hz, hs, hb⟩ := itemInfo;obtain ⟨m, hm⟩ : ∃ m, m = N + 1 - i := ⟨_, rfl⟩;subst hk;rw [← hm];have hil : (l.take i).length = i := by rw [List.length_take]; omega
 have hcap := h.size
 have hfo := run_firstCells_some (P := Tryz.prog) W.drew 8 i ⟨g, 0, none⟩ i c (flat (l.take i)) (by rw [flat_len, hil]) (fun j v hj => by
  rw [Addr.add_lit, Nat.zero_add]
  show W.cell? _ = _
  rw [h.cell, ← hj, ← flat_take, ← he, List.take_take, Nat.min_eq_left (by omega), List.getElem?_take_of_lt];have := (List.getElem?_eq_some_iff.1 hj).1;rw [flat_len, hil] at this
  exact this)
 have hn' : ¬ (i + m ≤ c) := by omega
 have hw : IntKind.i64.wrap (m : Int) = m := by rw [IntKind.wrap_i64]; omega
 have h63' : ¬ (9223372036854775807 < ((i : Int) + (m : Int))) := by omega
 have h48' : ¬ (281474976710656 < Builtin.nextslicecap (i + m) c * 72) := by
  have := growslice_fits (need := i + m) (old := c) (bytes := 72) (by omega) (by omega);omega
 have h48i : ¬ (281474976710656 < (m : Int) * (72 : Int)) := by omega
 have hneg : ¬ ((m : Int) < 0) := by omega
 have hms : ¬ (m = 0) := by omega
 have hm8 : ¬ (m * 8 = 0) := by omega
 have him : i + m = N + 1 := by omega
 have hge := grownCap_ge W (i + m) c 77;have hcm := grownCap_le_maxLen W (i + m) c 77 (by simp only [maxLen]; omega)
 have hrun : (Builtin.append_ #[81, 3] ty #[.slice (some ⟨g, 0, none⟩) i c, .int .i64 (m : Int)]).run Tryz.prog W = .ok (.slice (some ⟨W.heap.size, 0, none⟩) (i + m) (grownCap W (i + m) c 77)) (W.drew.alloc (.cells ((flat (l.take i)).toArray ++ Builtin.zeroCells (Value.agg #[.string ByteArray.empty, .int .i64 0, .int .u32 0, .int .u32 0, .int .u32 0, .int .i64 0, .int .i64 0, .string ByteArray.empty]).cells m ++ Builtin.zeroCells (Value.agg #[.string ByteArray.empty, .int .i64 0, .int .u32 0, .int .u32 0, .int .u32 0, .int .i64 0, .int .i64 0, .string ByteArray.empty]).cells (grownCap W (i + m) c 77 - (i + m))) 77)) := by
  generalize hzz : (Value.agg #[.string ByteArray.empty, .int .i64 0, .int .u32 0, .int .u32 0, .int .u32 0, .int .i64 0, .int .i64 0, .string ByteArray.empty]) = zz at *;simp [Builtin.append_, run_underlying Tryz.underlying81, run_underlying Tryz.underlying3, sizeOf, typeInfo, zeroValue, hi0, hz, hs, hb, asInt, asIntOf, hw, hn', hneg, hms, hm8, h63', h48', h48i, Question.forced, hfo, newRow, grownCap]
 rw [him] at hrun hge hcm;have hB : Below W.heap.size W (W.drew.alloc (.cells ((flat (l.take i)).toArray ++ Builtin.zeroCells (Value.agg #[.string ByteArray.empty, .int .i64 0, .int .u32 0, .int .u32 0, .int .u32 0, .int .i64 0, .int .i64 0, .string ByteArray.empty]).cells m ++ Builtin.zeroCells (Value.agg #[.string ByteArray.empty, .int .i64 0, .int .u32 0, .int .u32 0, .int .u32 0, .int .i64 0, .int .i64 0, .string ByteArray.empty]).cells (grownCap W (N + 1) c 77 - (N + 1))) 77)) := (below_drew (Below.refl _ _)).alloc (by show W.heap.size ≤ W.heap.size; exact Nat.le_refl _) _;have hsz : ∀ q, (Builtin.zeroCells (Value.agg #[.string ByteArray.empty, .int .i64 0, .int .u32 0, .int .u32 0, .int .u32 0, .int .i64 0, .int .i64 0, .string ByteArray.empty]).cells q).size = q * 8 := fun q => by rw [size_zeroCells]; rfl
 refine ⟨_, _, _, (flat (l.take i) ++ (Builtin.zeroCells (Value.agg #[.string ByteArray.empty, .int .i64 0, .int .u32 0, .int .u32 0, .int .u32 0, .int .i64 0, .int .i64 0, .string ByteArray.empty]).cells m).toList ++ (Builtin.zeroCells (Value.agg #[.string ByteArray.empty, .int .i64 0, .int .u32 0, .int .u32 0, .int .u32 0, .int .i64 0, .int .i64 0, .string ByteArray.empty]).cells (grownCap W (N + 1) c 77 - (N + 1))).toList), hrun, ⟨?_, ?_, hcm, hn⟩, hge, ?_, hB, Nat.le_refl _⟩
 ·
  have := heap_new W.drew (.cells ((flat (l.take i)).toArray ++ Builtin.zeroCells (Value.agg #[.string ByteArray.empty, .int .i64 0, .int .u32 0, .int .u32 0, .int .u32 0, .int .i64 0, .int .i64 0, .string ByteArray.empty]).cells m ++ Builtin.zeroCells (Value.agg #[.string ByteArray.empty, .int .i64 0, .int .u32 0, .int .u32 0, .int .u32 0, .int .i64 0, .int .i64 0, .string ByteArray.empty]).cells (grownCap W (N + 1) c 77 - (N + 1))) 77);refine Eq.trans this ?_
  congr 2
  apply Array.ext';simp
 ·
  simp only [List.length_append, flat_len, hil, Array.length_toList, hsz];omega
 rw [List.append_assoc, List.take_append_of_le_length (by rw [flat_len, hil]; exact Nat.le_refl _), List.take_of_length_le (by rw [flat_len, hil]; exact Nat.le_refl _)]
theorem one_reads {W : World} {b : Nat} {y : It} (h : ∀ j u, (cellsI y)[j]? = some u → W.cell? ⟨b, j, none⟩ = some u) : ItemC W (some ⟨b, 0, none⟩) [y] :=
 ⟨rfl, by simp, fun _ => ⟨_, rfl, fun j p hj => by
  cases j with
  | succ j => simp at hj
  | zero =>
   have : y = p := by simpa using hj
   subst this
   exact ⟨cellsI y, rfl, itemK_mk _ _, fun i u hu => by rw [show (0 * itemK.sz + i) = i by omega, Addr.add_lit, Nat.zero_add]; exact h i u hu⟩⟩⟩
theorem infoItem1 : (Tryz.prog.info? 77).map (·.size) = some 8 := by kernel_rfl
theorem ats_same {P : Program} {t u e : TypeId} (ht : P.underlying t = some (.slice e)) (hu : P.underlying u = some (.slice e)) {i : TypeInfo} (hi : P.info? e = some i) (ty : TypeId) (B : Option Addr) (k l : Nat) (A : Option Addr) (m c : Nat) (W : World) :
  (Builtin.append_ #[t, u] ty #[.slice B k l, .slice A m c]).run P W = (Builtin.append_ #[t, t] ty #[.slice B k l, .slice A m c]).run P W := by
 simp [Builtin.append_, run_underlying ht, run_underlying hu, sizeOf, typeInfo, hi, Sem.run_bind]
theorem run_append_item {n : Nat} {v : Value} {s : List It} {y : It} {W : World} (h : itemK.R 77 W n (fun _ => True) v s) (ad : Addr) (c ty : Nat) (hy : ItemC W (some ad) [y]) (hn : n ≤ W.heap.size) (hs : s.length ≤ 1000000) :
  ∃ v1 w1, (Builtin.append_ #[81, 41] ty #[v, .slice (some ad) 1 c]).run Tryz.prog W = .ok v1 w1 ∧ itemK.R 77 w1 n (fun _ => True) v1 (s ++ [y]) ∧ W.grownBy w1 v.ownBlock ∧ (v1.ownBlock = v.ownBlock ∨ ∃ b, v1.ownBlock = some b ∧ W.heap.size ≤ b) := by
 obtain ⟨A0, c0, rfl⟩ := Kd.R_slice h;obtain ⟨hok, inner, hown, hr⟩ := h;obtain ⟨i0, hi, hzz⟩ := Option.map_eq_some_iff.1 infoItem;simp only [Prod.mk.injEq] at hzz;obtain ⟨hz0, hz1, hz2⟩ := hzz
 have hcell : ∀ j u, (cellsI y)[j]? = some u → W.cell? (ad.add j) = some u := by
  intro j u hu;obtain ⟨ad', e, hc⟩ := hy.2.2 (by simp);injection e with e
  subst e;obtain ⟨cs, hl, hK, hcc⟩ := hc 0 y rfl;have := itemK_K hK;subst this;have h1 := hcc j u hu;rw [show 0 * itemK.sz + j = j by omega] at h1;exact h1
 obtain ⟨v1, w1, hrun, hown1, hg, _, hat⟩ := run_append_own_at (P := Tryz.prog) W n 81 ty 77 i0 _ 8 72 Tryz.underlying81 hi hz0 hz1 hz2 rfl (by decide) _ s.length inner hown ad 1 c (cellsI y) rfl hcell (by intro u hu; exact itemK.K_one (itemK_mk W y) u hu) (by simp only [maxLen]; omega) (by omega) hn
 have hat' : v1.ownBlock = (Value.slice A0 s.length c0).ownBlock ∨ ∃ b, v1.ownBlock = some b ∧ W.heap.size ≤ b := by
  rcases hat with hat | hat
  ·
   exact .inl hat
  exact .inr ⟨_, hat, Nat.le_refl _⟩
 exact ⟨v1, w1, by rw [ats_same Tryz.underlying81 Tryz.underlying41 hi]; exact hrun, Kd.R_appended (okp := fun _ => False) hok hr (itemK_M W n _ y) (fun _ hk => hk.elim) (fun _ _ => trivial) hown1 hg hat', hg, hat'⟩
theorem tinsert_end (n : Nat) (v : Value) (s : List It) (y : It) (ad : Addr) (cb : Nat) (W : World) (h : itemK.R 77 W n (fun _ => True) v s) (hy : ItemC W (some ad) [y]) (hn : n ≤ W.heap.size) (hs : s.length ≤ 1000000) :
  Calls Tryz.prog 86 #[v, .int .i64 s.length, .slice (some ad) 1 cb] W fun e w' => ∃ v1, e = .returned v1 ∧ itemK.R 77 w' n (fun _ => True) v1 (s ++ [y]) ∧ W.grownBy w' v.ownBlock ∧ (v1.ownBlock = v.ownBlock ∨ ∃ b, v1.ownBlock = some b ∧ W.heap.size ≤ b) := by
 obtain ⟨A, c, rfl, hcap, hC⟩ := Kd.R_reads h;obtain ⟨v1, w1, hrun, hr1, hg1, ha1⟩ := run_append_item h ad cb 81 hy hn hs;have HRUN := Hi hrun;have HF := Hi (And.intro hr1 (And.intro hg1 ha1));clear h hy hC hrun hr1 hg1 ha1;have hcI : (s.length : Int) ≤ (c : Int) := by omega
 go_enter Tryz.func86, Tryz.ntmps86
 go_wp2_with (first | ((with_reducible refine gate_builtin (b := .append) (xs := #[.tmp 23, .tmp 24]) rfl ?_); at_builtin; refine append_by_run rfl (.tmp 23) (.tmp 24) rfl rfl rfl HRUN.out ?_))
 all_goals go_ret
 all_goals first
  | exact ⟨_, rfl, HF.out.1, HF.out.2.1, HF.out.2.2⟩
  | (refine ⟨_, rfl, HF.out.1, ?_⟩
     have h := HF.out.2
     cases A <;> exact h)
theorem tinsert_room (W0 : World) (g N c i bv : Nat) (y0 : ByteArray) (y1 y2 y3 y4 y5 y6 : Int) (y7 : ByteArray) (l : List It) (W : World) (hN : N ≤ 1000000) (hi : i < N) (hc : N + 1 ≤ c) (hB : Below W0.heap.size W0 W) (h : Row W W0.heap.size g N c l) (hv : W.heap[bv]? = some (.cells #[.string y0, .int .i64 y1, .int .u32 y2, .int .u32 y3, .int .u32 y4, .int .i64 y5, .int .i64 y6, .string y7] 77 (0, 0))) (hne : bv ≠ g) :
  Calls Tryz.prog 86 #[.slice (some ⟨g, 0, none⟩) N c, .int .i64 i, .slice (some ⟨bv, 0, none⟩) 1 1] W fun e w' => ∃ v1, e = .returned v1 ∧ itemK.R 77 w' W0.heap.size (fun _ => True) v1 (l.take i ++ (y0, y1, y2, y3, y4, y5, y6, y7) :: l.drop i) ∧ W.grownBy w' (some g) ∧ (v1.ownBlock = some g ∨ ∃ k, v1.ownBlock = some k ∧ W.heap.size ≤ k) := by
 obtain ⟨cur, hraw, hcN, hflat⟩ := Row.raw h;have hcap := hraw.size
 have hov : ∀ lb cb, (callFunc 120 #[.slice (some ⟨bv, 0, none⟩) 1 1, .slice (some ⟨g, (i + 1) * 8, none⟩) lb cb]).run Tryz.prog W = .ok (.value (.bool false)) W := fun lb cb => by
  rw [run_callFunc_extern Tryz.func120 (by kernel_rfl) (by kernel_rfl) (by kernel_rfl) (e := Extern.SlicesOverlaps.overlaps #[41, 41] #[4]) (by kernel_rfl),
   Lib.run_overlaps_apart W 41 4 77 Tryz.underlying41 8 (fun w => by obtain ⟨i0, hi0, _, hs, _⟩ := itemInfo; simp [sizeOf, typeInfo, hi0, hs]) ⟨bv, 0, none⟩ ⟨g, (i + 1) * 8, none⟩ 1 1 lb cb hne 77 77 8 (c * 8) (by simp [World.shape?, hv]) (by simp [World.shape?, hraw.blk, hcap]) (by omega) (frozen_of hv _) (frozen_of hv _)]
  rfl
 have hd : (flat (l.drop i)).length = (N - i) * 8 := by rw [flat_len, List.length_drop, h.1]
 have hcp1 : ∀ ty dl dc sl sc, dl = N - i → sl = N + 1 - i → (Builtin.copy_ #[81, 81] ty #[.slice (some ⟨g, (i + 1) * 8, none⟩) dl dc, .slice (some ⟨g, i * 8, none⟩) sl sc]).run Tryz.prog W.drew = .ok (goInt ((N - i : Nat) : Int)) (W.drew.setRow g (laid cur (flat (l.drop i)) ((i + 1) * 8)).toArray) := fun ty dl dc sl sc h1 h2 => by
  subst h1 h2;have hm : Nat.min (N + 1 - i) (N - i) = N - i := Nat.min_eq_right (by omega)
  have := run_copy_raw (RawAt.drew hraw) (dT := 81) (sT := 81) (ty := ty) Tryz.underlying81 ((i + 1) * 8) (N - i) dc ⟨g, i * 8, none⟩ (N + 1 - i) sc (flat (l.drop i)) (by rw [hm, hd]) (fun j v hj => by
   rw [Addr.add_lit]
   show W.cell? _ = _
   rw [hraw.cell, ← hj, ← flat_drop, ← hflat, List.getElem?_drop, List.getElem?_take_of_lt];have := (List.getElem?_eq_some_iff.1 hj).1;rw [hd] at this
   omega) (by rw [hd]; omega) (flat_one _)
  rw [hm] at this;exact this
 have hl1 := (RawAt.drew hraw).lay (vs := flat (l.drop i)) (o := (i + 1) * 8) (by rw [hd]; omega);have hb1 : Below W0.heap.size W0 (W.drew.setRow g (laid cur (flat (l.drop i)) ((i + 1) * 8)).toArray) := below_row (below_drew hB) hl1.2 h.base;have hv1 : (W.drew.setRow g (laid cur (flat (l.drop i)) ((i + 1) * 8)).toArray).heap[bv]? = some (.cells #[.string y0, .int .i64 y1, .int .u32 y2, .int .u32 y3, .int .u32 y4, .int .i64 y5, .int .i64 y6, .string y7] 77 (0, 0)) := (setRow_other _ g bv _ hne).trans hv;obtain ⟨W1, hW1⟩ : ∃ W1, W1 = W.drew.setRow g (laid cur (flat (l.drop i)) ((i + 1) * 8)).toArray := ⟨_, rfl⟩;rw [← hW1] at hl1 hb1 hv1;have hcp1 : ∀ ty dl dc sl sc, dl = N - i → sl = N + 1 - i → (Builtin.copy_ #[81, 81] ty #[.slice (some ⟨g, (i + 1) * 8, none⟩) dl dc, .slice (some ⟨g, i * 8, none⟩) sl sc]).run Tryz.prog W.drew = .ok (goInt ((N - i : Nat) : Int)) W1 := by rw [hW1]; exact hcp1
 have hcl : (laid cur (flat (l.drop i)) ((i + 1) * 8)).length = cur.length := laid_len (by rw [hd]; omega)
 have hcp2 : ∀ ty dl dc, 0 < dl → (Builtin.copy_ #[81, 41] ty #[.slice (some ⟨g, i * 8, none⟩) dl dc, .slice (some ⟨bv, 0, none⟩) 1 1]).run Tryz.prog W1 = .ok (goInt 1) (W1.setRow g (laid (laid cur (flat (l.drop i)) ((i + 1) * 8)) (cellsI (y0, y1, y2, y3, y4, y5, y6, y7)) (i * 8)).toArray) := fun ty dl dc h1 => by
  have hm : Nat.min 1 dl = 1 := Nat.min_eq_left h1;have := run_copy_raw hl1.1 (dT := 81) (sT := 41) (ty := ty) Tryz.underlying81 (i * 8) dl dc ⟨bv, 0, none⟩ 1 1 (cellsI (y0, y1, y2, y3, y4, y5, y6, y7)) (by rw [hm]; rfl) (one_cells hv1) (by rw [cellsI_len, hcl]; omega) (cellsI_one _);rw [hm] at this;exact this
 have hl2 := hl1.1.lay (vs := cellsI (y0, y1, y2, y3, y4, y5, y6, y7)) (o := i * 8) (by rw [cellsI_len, hcl]; omega);have hb2 := below_row hb1 hl2.2 h.base;have hrow := Row.ofRaw (l := l.take i ++ (y0, y1, y2, y3, y4, y5, y6, y7) :: l.drop i) (N := N + 1) hl2.1 (by simp only [List.length_append, List.length_cons, List.length_take, List.length_drop, h.1]; omega) hc (shifted (y0, y1, y2, y3, y4, y5, y6, y7) h.1 hi (by omega) hflat);have HCP1 := Hi hcp1;have HCP2 := Hi hcp2;have HE := Hi (And.intro hrow.2 (And.intro hb2 (grown_trans (grown_trans (grown_drew (grown_refl W (some g))) hl1.2) hl2.2)));clear hcp1 hcp2 hrow hb2 hl1 hl2 hb1 hv1 hW1 hcl hd hflat hraw hcap;obtain ⟨ad, had⟩ : ∃ ad : Addr, ad = ⟨g, 0, none⟩ := ⟨_, rfl⟩;have HAD := Hi had;have haddI : ad.add (i * 8) = ⟨g, i * 8, none⟩ := by rw [had, Addr.add_lit, Nat.zero_add]
 have haddJ : ad.add ((i + 1) * 8) = ⟨g, (i + 1) * 8, none⟩ := by rw [had, Addr.add_lit, Nat.zero_add]
 rw [← had];have hiN : (i : Int) ≤ (N : Int) := by omega
 have q0 : ((i : Int) == (N : Int)) = false := beq_eq_false_iff_ne.2 (by omega);have q1 : ¬ (c : Int) < (N : Int) + 1 := by omega
 have q2 : (N : Int) + 1 ≤ (c : Int) := by omega
 have q3 : (i : Int) + 1 ≤ (N : Int) + 1 := by omega
 have htn : ((i : Int) + 1).toNat = i + 1 := by omega
 have htN : ((N : Int) + 1).toNat = N + 1 := by omega
 clear had h hB hv;go_enter Tryz.func86, Tryz.ntmps86
 go_wp2_with (simp only [hov])
 have r1 : (0 : Int) ≤ (i : Int) + 1 := by omega
 have r2 : ¬ (c = i + 1) := by omega
 have r3 : ¬ (c = i) := by omega
 have r4 : (i : Int) ≤ (N : Int) + 1 := by omega
 have hdl : N + 1 - (i + 1) = N - i := by omega
 have hps : 0 < N + 1 - i := by omega
 have hw1 : IntKind.i64.wrap ((i : Int) + 1) = (i : Int) + 1 := by rw [IntKind.wrap_i64]; omega
 refine start_ (n := 9) (S := fun w' => True) (ds := [8]) (bm 9 0) (by kernel_rfl) rfl rfl trivial (fun hHeld => ?_);refine pure_ (i := 0) (N := some 69) (v := ?_) (a' := ?_) (bm 9 1) rfl rfl (by kernel_rfl) (fun _ _ _ h => h) (Or.inl ⟨by rfl, ?_⟩) ?_ ?_;rotate_left;intro w';go_simp;(with_reducible rfl);rotate_left;simp only [Act.put, nA, nZ, nS, i64_w, i32_w];rfl;refine pure_ (i := 1) (N := some 70) (v := ?_) (a' := ?_) (bm 9 3) rfl rfl (by kernel_rfl) (fun _ _ _ h => h) (Or.inl ⟨by rfl, ?_⟩) ?_ ?_;rotate_left;intro w';go_simp;(with_reducible rfl);rotate_left;simp only [Act.put, nA, nZ, nS, i64_w, i32_w];rfl;refine pure_ (i := 2) (N := some 71) (v := ?_) (a' := ?_) (bm 9 7) rfl rfl (by kernel_rfl) (fun _ _ _ h => h) (Or.inl ⟨by rfl, ?_⟩) ?_ ?_;rotate_left;intro w';go_simp;(with_reducible rfl);rotate_left;simp only [Act.put, nA, nZ, nS, i64_w, i32_w];rfl;refine pure_ (i := 3) (N := some 72) (v := ?_) (a' := ?_) (bm 9 15) rfl rfl (by kernel_rfl) (fun _ _ _ h => h) (Or.inl ⟨by rfl, ?_⟩) ?_ ?_;rotate_left;intro w';go_simp;(with_reducible rfl);rotate_left;simp only [Act.put, nA, nZ, nS, i64_w, i32_w];rfl;refine pure_ (i := 4) (N := some 73) (v := ?_) (a' := ?_) (bm 9 31) rfl rfl (by kernel_rfl) (fun _ _ _ h => h) (Or.inl ⟨by rfl, ?_⟩) ?_ ?_;rotate_left;intro w';go_simp;(with_reducible rfl);rotate_left;simp only [Act.put, nA, nZ, nS, i64_w, i32_w];rfl;refine pure_ (i := 5) (N := some 74) (v := ?_) (a' := ?_) (bm 9 63) rfl rfl (by kernel_rfl) (fun _ _ _ h => h) (Or.inl ⟨by rfl, ?_⟩) ?_ ?_;rotate_left;intro w';go_simp;(with_reducible rfl);rotate_left;simp only [Act.put, nA, nZ, nS, i64_w, i32_w];rfl;refine pure_ (i := 6) (N := some 75) (v := ?_) (a' := ?_) (bm 9 127) rfl rfl (by kernel_rfl) (fun _ _ _ h => h) (Or.inl ⟨by rfl, ?_⟩) ?_ ?_;rotate_left;intro w';go_simp;(with_reducible rfl);rotate_left;simp only [Act.put, nA, nZ, nS, i64_w, i32_w];rfl;refine pure_ (i := 7) (N := some 76) (v := ?_) (a' := ?_) (bm 9 255) rfl rfl (by kernel_rfl) (fun _ _ _ h => h) (Or.inl ⟨by rfl, ?_⟩) ?_ ?_;rotate_left;intro w';go_simp;(with_reducible rfl);rotate_left;simp only [Act.put, nA, nZ, nS, i64_w, i32_w];rfl;refine last_ (i := 8) (N := some 77) (bm 9 511) rfl rfl (by kernel_rfl) (by decide) (fun K hK => ?_);refine value_ (w1 := _) (v := _) (by rfl) rfl (copy_exec rfl rfl rfl (HCP1.out _ _ _ _ _ (by first | exact hdl | rfl) (by rfl))) ?_;refine hK.out _ _ ?_;clear hK K;refine norm_ (a' := ?_) ?_ ?_;rotate_left
 ·
  show Act.put _ (some 77) _ = _
  simp only [Act.put, nA, nZ, nS, i64_w, i32_w];rfl
 refine done_ (by kernel_rfl) ?_;clear hov hw1
 go_wp2_with (first | ((with_reducible refine gate_builtin (b := .copy) (xs := #[.tmp 80, .tmp 81]) rfl ?_); refine copy_by_run rfl (.tmp 80) (.tmp 81) rfl rfl rfl (HCP2.out _ _ _ hps) ?_))
 go_ret;exact ⟨_, rfl, by rw [← HAD.out] at HE; exact HE.out.1, HE.out.2.2, .inl (by rw [HAD.out]; rfl)⟩
theorem tinsert_grow (W0 : World) (g N c i bv : Nat) (y0 : ByteArray) (y1 y2 y3 y4 y5 y6 : Int) (y7 : ByteArray) (l : List It) (W : World) (hN : N ≤ 1000000) (hi : i < N) (hc : c < N + 1) (hB : Below W0.heap.size W0 W) (h : Row W W0.heap.size g N c l) (hv : W.heap[bv]? = some (.cells #[.string y0, .int .i64 y1, .int .u32 y2, .int .u32 y3, .int .u32 y4, .int .i64 y5, .int .i64 y6, .string y7] 77 (0, 0))) :
  Calls Tryz.prog 86 #[.slice (some ⟨g, 0, none⟩) N c, .int .i64 i, .slice (some ⟨bv, 0, none⟩) 1 1] W fun e w' => ∃ v1, e = .returned v1 ∧ itemK.R 77 w' W0.heap.size (fun _ => True) v1 (l.take i ++ (y0, y1, y2, y3, y4, y5, y6, y7) :: l.drop i) ∧ W.grownBy w' (some g) ∧ (v1.ownBlock = some g ∨ ∃ k, v1.ownBlock = some k ∧ W.heap.size ≤ k) := by
 obtain ⟨cur, hraw, hcN, hflat⟩ := Row.raw h;have hcap := hraw.size;have hgl := h.lt;have hbl : bv < W.heap.size := (Own.lo hv);have hd : (flat (l.drop i)).length = (N - i) * 8 := by rw [flat_len, List.length_drop, h.1]
 obtain ⟨g2, c2, W2, cur2, hrun, hraw2, hc2, hfl2, hb2, hg2⟩ := run_append_tree hraw hN hi hcN hc h.1 hflat hB.size ((N : Int) + 1 - (i : Int)) (by omega) 81;have hcap2 := hraw2.size;have hv2 : W2.heap[bv]? = some (.cells #[.string y0, .int .i64 y1, .int .u32 y2, .int .u32 y3, .int .u32 y4, .int .i64 y5, .int .i64 y6, .string y7] 77 (0, 0)) := (hb2.block bv hbl).trans hv;have hB2 := below_next_ hB hb2
 have hcp2 : ∀ ty dl dc, 0 < dl → (Builtin.copy_ #[81, 41] ty #[.slice (some ⟨g2, i * 8, none⟩) dl dc, .slice (some ⟨bv, 0, none⟩) 1 1]).run Tryz.prog W2 = .ok (goInt 1) (W2.setRow g2 (laid cur2 (cellsI (y0, y1, y2, y3, y4, y5, y6, y7)) (i * 8)).toArray) := fun ty dl dc h1 => by
  have hm : Nat.min 1 dl = 1 := Nat.min_eq_left h1;have := run_copy_raw hraw2 (dT := 81) (sT := 41) (ty := ty) Tryz.underlying81 (i * 8) dl dc ⟨bv, 0, none⟩ 1 1 (cellsI (y0, y1, y2, y3, y4, y5, y6, y7)) (by rw [hm]; rfl) (one_cells hv2) (by rw [cellsI_len]; omega) (cellsI_one _);rw [hm] at this;exact this
 have hl3 := hraw2.lay (vs := cellsI (y0, y1, y2, y3, y4, y5, y6, y7)) (o := i * 8) (by rw [cellsI_len]; omega);have hB3 := below_row hB2 hl3.2 (Nat.le_trans hB.size hg2);have hblk : (W2.setRow g2 (laid cur2 (cellsI (y0, y1, y2, y3, y4, y5, y6, y7)) (i * 8)).toArray).heap[g]? = W.heap[g]? := (setRow_other _ g2 g _ (by omega)).trans (hb2.block g hgl);have hcl : (laid cur2 (cellsI (y0, y1, y2, y3, y4, y5, y6, y7)) (i * 8)).length = cur2.length := laid_len (by rw [cellsI_len]; omega);obtain ⟨W3, hW3⟩ : ∃ W3, W3 = W2.setRow g2 (laid cur2 (cellsI (y0, y1, y2, y3, y4, y5, y6, y7)) (i * 8)).toArray := ⟨_, rfl⟩;rw [← hW3] at hl3 hB3 hblk;have hcp2 : ∀ ty dl dc, 0 < dl → (Builtin.copy_ #[81, 41] ty #[.slice (some ⟨g2, i * 8, none⟩) dl dc, .slice (some ⟨bv, 0, none⟩) 1 1]).run Tryz.prog W2 = .ok (goInt 1) W3 := by rw [hW3]; exact hcp2
 have hraw3 : RawAt W3 W0.heap.size g c cur := ⟨hblk.trans hraw.blk, hraw.size, hraw.cap, hraw.base⟩
 have hcp3 : ∀ ty dl dc sl sc, dl = N - i → sl = N - i → (Builtin.copy_ #[81, 81] ty #[.slice (some ⟨g2, (i + 1) * 8, none⟩) dl dc, .slice (some ⟨g, i * 8, none⟩) sl sc]).run Tryz.prog W3.drew = .ok (goInt ((N - i : Nat) : Int)) (W3.drew.setRow g2 (laid (laid cur2 (cellsI (y0, y1, y2, y3, y4, y5, y6, y7)) (i * 8)) (flat (l.drop i)) ((i + 1) * 8)).toArray) := fun ty dl dc sl sc h1 h2 => by
  subst h1 h2;have hm : Nat.min (N - i) (N - i) = N - i := Nat.min_self _
  have := run_copy_raw (RawAt.drew hl3.1) (dT := 81) (sT := 81) (ty := ty) Tryz.underlying81 ((i + 1) * 8) (N - i) dc ⟨g, i * 8, none⟩ (N - i) sc (flat (l.drop i)) (by rw [hm, hd]) (fun j v hj => by
   rw [Addr.add_lit]
   show W3.cell? _ = _
   rw [hraw3.cell, ← hj, ← flat_drop, ← hflat, List.getElem?_drop, List.getElem?_take_of_lt];have := (List.getElem?_eq_some_iff.1 hj).1;rw [hd] at this
   omega) (by rw [hd, hcl]; omega) (flat_one _)
  rw [hm] at this;exact this
 have hl4 := (RawAt.drew hl3.1).lay (vs := flat (l.drop i)) (o := (i + 1) * 8) (by rw [hd, hcl]; omega);have hB4 := below_row (below_drew hB3) hl4.2 (Nat.le_trans hB.size hg2);have hFR := below_row (below_drew (below_row hb2 hl3.2 hg2)) hl4.2 hg2;have hrow := Row.ofRaw (l := l.take i ++ (y0, y1, y2, y3, y4, y5, y6, y7) :: l.drop i) (N := N + 1) hl4.1 (by simp only [List.length_append, List.length_cons, List.length_take, List.length_drop, h.1]; omega) hc2 (joined (y0, y1, y2, y3, y4, y5, y6, y7) h.1 hi (by omega) hfl2);obtain ⟨W5, hW5⟩ : ∃ W5, W5 = W3.drew.setRow g2 (laid (laid cur2 (cellsI (y0, y1, y2, y3, y4, y5, y6, y7)) (i * 8)) (flat (l.drop i)) ((i + 1) * 8)).toArray := ⟨_, rfl⟩;rw [← hW5] at hrow hB4 hFR;have hcp3 : ∀ ty dl dc sl sc, dl = N - i → sl = N - i → (Builtin.copy_ #[81, 81] ty #[.slice (some ⟨g2, (i + 1) * 8, none⟩) dl dc, .slice (some ⟨g, i * 8, none⟩) sl sc]).run Tryz.prog W3.drew = .ok (goInt ((N - i : Nat) : Int)) W5 := by rw [hW5]; exact hcp3
 have HRUN := Hi hrun;have HCP2 := Hi hcp2;have HCP3 := Hi hcp3;have HE := Hi (And.intro hrow.2 (And.intro hg2 (grown_of_below hFR (some g))));clear hrun hcp2 hcp3 hrow hB4 hFR hl4 hl3 hB3 hblk hW3 hW5 hcl hraw3 hd hflat hraw hcap hraw2 hcap2 hfl2 hb2 hv2 hB2 hB hv;obtain ⟨ad, had⟩ : ∃ ad : Addr, ad = ⟨g, 0, none⟩ := ⟨_, rfl⟩;obtain ⟨ad2, had2⟩ : ∃ ad : Addr, ad = ⟨g2, 0, none⟩ := ⟨_, rfl⟩;have HAD := Hi (And.intro had had2);have haddI : ad.add (i * 8) = ⟨g, i * 8, none⟩ := by rw [had, Addr.add_lit, Nat.zero_add]
 have hadd2 : ad2.add (i * 8) = ⟨g2, i * 8, none⟩ := by rw [had2, Addr.add_lit, Nat.zero_add]
 have hadd3 : ad2.add ((i + 1) * 8) = ⟨g2, (i + 1) * 8, none⟩ := by rw [had2, Addr.add_lit, Nat.zero_add]
 rw [← had, ← had2] at HRUN;rw [← had];have hiN : (i : Int) ≤ (N : Int) := by omega
 have q0 : ((i : Int) == (N : Int)) = false := beq_eq_false_iff_ne.2 (by omega);have q1 : (c : Int) < (N : Int) + 1 := by omega
 have q2 : (i : Int) ≤ (c : Int) := by omega
 have q3 : (i : Int) ≤ (N : Int) + 1 := by omega
 have q4 : ¬ (c2 = i) := by omega
 have q5 : ¬ (c = i) := by omega
 clear had had2 h;go_enter Tryz.func86, Tryz.ntmps86
 go_wp2_with (first | ((with_reducible refine gate_builtin (b := .append) (xs := #[.tmp 34, .tmp 39]) rfl ?_); refine append_by_run rfl (.tmp 34) (.tmp 39) rfl rfl rfl HRUN.out ?_) | ((with_reducible refine gate_builtin (b := .copy) (xs := #[.tmp 43, .tmp 44]) rfl ?_); refine copy_by_run rfl (.tmp 43) (.tmp 44) rfl rfl rfl (HCP2.out _ _ _ (by omega)) ?_))
 have r1 : (0 : Int) ≤ (i : Int) + 1 := by omega
 have r2 : ¬ (c2 = i + 1) := by omega
 have r3 : (i : Int) + 1 ≤ (N : Int) + 1 := by omega
 have htn : ((i : Int) + 1).toNat = i + 1 := by omega
 have hdl : N + 1 - (i + 1) = N - i := by omega
 have hw1 : IntKind.i64.wrap ((i : Int) + 1) = (i : Int) + 1 := by rw [IntKind.wrap_i64]; omega
 refine start_ (n := 9) (S := fun w' => True) (ds := [8]) (bm 9 0) (by kernel_rfl) rfl rfl trivial (fun hHeld => ?_);refine pure_ (i := 0) (N := some 46) (v := ?_) (a' := ?_) (bm 9 1) rfl rfl (by kernel_rfl) (fun _ _ _ h => h) (Or.inl ⟨by rfl, ?_⟩) ?_ ?_;rotate_left;intro w';go_simp;(with_reducible rfl);rotate_left;simp only [Act.put, nA, nZ, nS, i64_w, i32_w];rfl;refine pure_ (i := 1) (N := some 47) (v := ?_) (a' := ?_) (bm 9 3) rfl rfl (by kernel_rfl) (fun _ _ _ h => h) (Or.inl ⟨by rfl, ?_⟩) ?_ ?_;rotate_left;intro w';go_simp;(with_reducible rfl);rotate_left;simp only [Act.put, nA, nZ, nS, i64_w, i32_w];rfl;refine pure_ (i := 2) (N := some 48) (v := ?_) (a' := ?_) (bm 9 7) rfl rfl (by kernel_rfl) (fun _ _ _ h => h) (Or.inl ⟨by rfl, ?_⟩) ?_ ?_;rotate_left;intro w';go_simp;(with_reducible rfl);rotate_left;simp only [Act.put, nA, nZ, nS, i64_w, i32_w];rfl;refine pure_ (i := 3) (N := some 49) (v := ?_) (a' := ?_) (bm 9 15) rfl rfl (by kernel_rfl) (fun _ _ _ h => h) (Or.inl ⟨by rfl, ?_⟩) ?_ ?_;rotate_left;intro w';go_simp;(with_reducible rfl);rotate_left;simp only [Act.put, nA, nZ, nS, i64_w, i32_w];rfl;refine pure_ (i := 4) (N := some 50) (v := ?_) (a' := ?_) (bm 9 31) rfl rfl (by kernel_rfl) (fun _ _ _ h => h) (Or.inl ⟨by rfl, ?_⟩) ?_ ?_;rotate_left;intro w';go_simp;(with_reducible rfl);rotate_left;simp only [Act.put, nA, nZ, nS, i64_w, i32_w];rfl;refine pure_ (i := 5) (N := some 51) (v := ?_) (a' := ?_) (bm 9 63) rfl rfl (by kernel_rfl) (fun _ _ _ h => h) (Or.inl ⟨by rfl, ?_⟩) ?_ ?_;rotate_left;intro w';go_simp;(with_reducible rfl);rotate_left;simp only [Act.put, nA, nZ, nS, i64_w, i32_w];rfl;refine pure_ (i := 6) (N := some 52) (v := ?_) (a' := ?_) (bm 9 127) rfl rfl (by kernel_rfl) (fun _ _ _ h => h) (Or.inl ⟨by rfl, ?_⟩) ?_ ?_;rotate_left;intro w';go_simp;(with_reducible rfl);rotate_left;simp only [Act.put, nA, nZ, nS, i64_w, i32_w];rfl;refine pure_ (i := 7) (N := some 53) (v := ?_) (a' := ?_) (bm 9 255) rfl rfl (by kernel_rfl) (fun _ _ _ h => h) (Or.inl ⟨by rfl, ?_⟩) ?_ ?_;rotate_left;intro w';go_simp;(with_reducible rfl);rotate_left;simp only [Act.put, nA, nZ, nS, i64_w, i32_w];rfl;refine last_ (i := 8) (N := some 54) (bm 9 511) rfl rfl (by kernel_rfl) (by decide) (fun K hK => ?_);refine value_ (w1 := _) (v := _) (by rfl) rfl (copy_exec rfl rfl rfl (HCP3.out _ _ _ _ _ (by first | exact hdl | rfl) (by rfl))) ?_;refine hK.out _ _ ?_;clear hK K;refine norm_ (a' := ?_) ?_ ?_;rotate_left
 ·
  show Act.put _ (some 54) _ = _
  simp only [Act.put, nA, nZ, nS, i64_w, i32_w];rfl
 refine done_ (by kernel_rfl) ?_;clear hw1;go_wp2;go_ret;exact ⟨_, rfl, by rw [← HAD.out.2] at HE; exact HE.out.1, HE.out.2.2, .inr ⟨g2, by rw [HAD.out.2]; rfl, HE.out.2.1⟩⟩
theorem tinsert_any (W0 : World) (v : Value) (i bv : Nat) (y0 : ByteArray) (y1 y2 y3 y4 y5 y6 : Int) (y7 : ByteArray) (l : List It) (W : World) (hN : l.length ≤ 1000000) (hi : i ≤ l.length) (hB : Below W0.heap.size W0 W) (h : itemK.R 77 W W0.heap.size (fun _ => True) v l) (hv : W.heap[bv]? = some (.cells #[.string y0, .int .i64 y1, .int .u32 y2, .int .u32 y3, .int .u32 y4, .int .i64 y5, .int .i64 y6, .string y7] 77 (0, 0))) (hne : some bv ≠ v.ownBlock) :
  Calls Tryz.prog 86 #[v, .int .i64 i, .slice (some ⟨bv, 0, none⟩) 1 1] W fun e w' => ∃ v1, e = .returned v1 ∧ RowPost W0.heap.size W w' v v1 (l.take i ++ (y0, y1, y2, y3, y4, y5, y6, y7) :: l.drop i) := by
 rcases Nat.lt_or_ge i l.length with hlt | hge
 ·
  rcases row_cases h with ⟨rfl, rfl⟩ | ⟨g, c, rfl, hr⟩
  ·
   simp at hlt
  rcases Nat.lt_or_ge c (l.length + 1) with hc | hc
  ·
   exact tinsert_grow W0 g l.length c i bv y0 y1 y2 y3 y4 y5 y6 y7 l W hN hlt hc hB hr hv
  exact tinsert_room W0 g l.length c i bv y0 y1 y2 y3 y4 y5 y6 y7 l W hN hlt hc hB hr hv (fun e => hne (by rw [e]; rfl))
 have : i = l.length := by omega
 subst this;rw [List.take_length, List.drop_length];exact tinsert_end W0.heap.size v l (y0, y1, y2, y3, y4, y5, y6, y7) ⟨bv, 0, none⟩ 1 W h (one_reads (fun j u hu => by rw [← Nat.zero_add j, ← Addr.add_lit]; exact one_cells hv j u hu)) hB.size hN
theorem own_beyond {W : World} {n g m c o : Nat} {ok : Nat → Prop} {xs : List It} {vs : List Value} (h : itemK.R 77 W n ok (.slice (some ⟨g, 0, none⟩) m c) xs) (ho : m * 8 ≤ o) (hl : o + vs.length ≤ c * 8) :
  itemK.R 77 (W.setCells g o vs) n ok (.slice (some ⟨g, 0, none⟩) m c) xs ∧ W.grownBy (W.setCells g o vs) (some g) ∧ ∃ cur, W.heap[g]? = some (.cells cur 77 (0, 0)) ∧ cur.size = c * 8 := by
 obtain ⟨hok, inner, ⟨hil, hown⟩, hr⟩ := h
 rcases hown with ⟨e, _⟩ | ⟨g', cap, cur, e, hb, hh, h1, h2, h3, h4⟩
 ·
  cases e
 injection e with e1 e2 e3
 injection e1 with e1
 injection e1 with e1
 subst e1 e2 e3;have h3' : cur.size = c * 8 := h3;obtain ⟨cur', k1, k2, k3⟩ := setCells_row vs o W cur hh (by omega);obtain ⟨s1, s2, s3, s4⟩ := setCells_same g vs o W;refine ⟨⟨hok, inner, ⟨hil, .inr ⟨g, c, cur', rfl, hb, k1, h1, h2, by rw [k2]; exact h3, ?_⟩⟩, hr.imp_ (fun x cs hM => ?_)⟩, ⟨s1, s2, s3, by rw [s4]; exact Nat.le_refl _, fun k _ hk => setCells_far vs o k (fun e => hk (by rw [e]))⟩, cur, hh, h3'⟩
 ·
  have hlen : (cur.toList.take o).length = o := by rw [List.length_take, Array.length_toList]; omega
  have h4' : cur.toList.take (xs.length * 8) = inner := h4
  show cur'.toList.take (xs.length * 8) = inner
  rw [k3, List.append_assoc, List.take_append_of_le_length (by rw [hlen]; exact ho), List.take_take, Nat.min_eq_left ho];exact h4'
 rw [itemK_K (itemK.K_of_M hM)];exact itemK_M _ _ _ _
abbrev zerosI : List Value := [.string ByteArray.empty, .int .i64 0, .int .u32 0, .int .u32 0, .int .u32 0, .int .i64 0, .int .i64 0, .string ByteArray.empty]
theorem run_clear_item (W : World) (ty : TypeId) (g o c : Nat) (hc : ∀ j, j < 8 → (W.cell? ⟨g, o + j, none⟩).isSome = true) (hf : ∀ j, j < 8 → W.frozen? ⟨g, o + j, none⟩ = false) :
  (Builtin.clear_ #[81] ty #[.slice (some ⟨g, o, none⟩) 1 c]).run Tryz.prog W = .ok (.tuple #[]) (W.setCells g o zerosI) := by
 have hst := run_storeCells_cells (P := Tryz.prog) g o zerosI 0 W (by simpa using hc) (by simpa using hf) (by intro v hv; exact itemK.K_one (itemK_mk W (ByteArray.empty, 0, 0, 0, 0, 0, 0, ByteArray.empty)) v hv);simp only [Nat.add_zero] at hst;obtain ⟨i0, hi, hzz⟩ := Option.map_eq_some_iff.1 infoItem;simp only [Prod.mk.injEq] at hzz;obtain ⟨hz0, _, _⟩ := hzz
 obtain ⟨z, hz1, hz2⟩ : ∃ z, i0.zero = some z ∧ (Builtin.zeroCells z.cells 1).toList = zerosI := ⟨_, hz0, by
  simp [Builtin.zeroCells, Value.cells]
  rfl⟩
 generalize zerosI = zs at *;simp [Builtin.clear_, run_underlying Tryz.underlying81, zeroValue, typeInfo, hi, hz1, hz2, hst]
theorem delete_one (n g k c : Nat) (s : List It) (W : World) (h : itemK.R 77 W n (fun _ => True) (.slice (some ⟨g, 0, none⟩) s.length c) s) (hk : k < s.length) (hn : n ≤ W.heap.size) (hs : s.length ≤ 1000000) :
  Calls Tryz.prog 85 #[.slice (some ⟨g, 0, none⟩) s.length c, .int .i64 k, .int .i64 ((k : Int) + 1)] W fun e w' => e = .returned (.slice (some ⟨g, 0, none⟩) (s.length - 1) c) ∧ itemK.R 77 w' n (fun _ => True) (.slice (some ⟨g, 0, none⟩) (s.length - 1) c) (s.eraseIdx k) ∧ W.grownBy w' (some g) := by
 have HR := Hi h;obtain ⟨A, c', he, hcap, _⟩ := Kd.R_reads h;injection he with h1 h2 h3
 subst h1;subst h3;clear h h2;have hkI : (k : Int) < (s.length : Int) := by omega
 have hk1 : ¬ (k : Int) = (k : Int) + 1 := by omega
 have hkc : k ≤ c := by omega
 have hk2 : (k : Int) + 1 ≤ (s.length : Int) := by omega
 have hk0 : (0 : Int) ≤ (k : Int) + 1 := by omega
 have hcI : (s.length : Int) ≤ (c : Int) := by omega
 go_enter Tryz.func85, Tryz.ntmps85;go_wp2;refine start_ (n := 8) (S := fun w' => True) (ds := []) (bm 8 0) (by kernel_rfl) rfl rfl trivial (fun hHeld => ?_);have HRW := Hi (Kd.R_below HR.out (below_drew (Below.refl W.heap.size W)));have hn4 : n ≤ W.drew.heap.size := hn;have HGW : Hid (W.grownBy W.drew (some g)) := Hi ⟨rfl, rfl, rfl, Nat.le_refl _, fun _ _ _ => rfl⟩;generalize W.drew = W4 at *;refine pure_ (i := 0) (N := some 20) (v := ?_) (a' := ?_) (bm 8 1) rfl rfl (by kernel_rfl) (fun _ _ _ h => h) (Or.inl ⟨by rfl, ?_⟩) ?_ ?_;rotate_left;intro w';go_simp;(with_reducible rfl);rotate_left;simp only [Act.put, nA, nZ, nS, i64_w, i32_w];rfl;refine pure_ (i := 1) (N := some 21) (v := ?_) (a' := ?_) (bm 8 3) rfl rfl (by kernel_rfl) (fun _ _ _ h => h) (Or.inl ⟨by rfl, ?_⟩) ?_ ?_;rotate_left;intro w';go_simp;(with_reducible rfl);rotate_left;simp only [Act.put, nA, nZ, nS, i64_w, i32_w];rfl;refine pure_ (i := 2) (N := some 22) (v := ?_) (a' := ?_) (bm 8 7) rfl rfl (by kernel_rfl) (fun _ _ _ h => h) (Or.inl ⟨by rfl, ?_⟩) ?_ ?_;rotate_left;intro w';go_simp;(with_reducible rfl);rotate_left;simp only [Act.put, nA, nZ, nS, i64_w, i32_w];rfl;refine pure_ (i := 3) (N := some 23) (v := ?_) (a' := ?_) (bm 8 15) rfl rfl (by kernel_rfl) (fun _ _ _ h => h) (Or.inl ⟨by rfl, ?_⟩) ?_ ?_;rotate_left;intro w';go_simp;(with_reducible rfl);rotate_left;simp only [Act.put, nA, nZ, nS, i64_w, i32_w];rfl;refine pure_ (i := 4) (N := some 24) (v := ?_) (a' := ?_) (bm 8 31) rfl rfl (by kernel_rfl) (fun _ _ _ h => h) (Or.inl ⟨by rfl, ?_⟩) ?_ ?_;rotate_left;intro w';go_simp;(with_reducible rfl);rotate_left;simp only [Act.put, nA, nZ, nS, i64_w, i32_w];rfl;refine pure_ (i := 5) (N := some 25) (v := ?_) (a' := ?_) (bm 8 63) rfl rfl (by kernel_rfl) (fun _ _ _ h => h) (Or.inl ⟨by rfl, ?_⟩) ?_ ?_;rotate_left;intro w';go_simp;(with_reducible rfl);rotate_left;simp only [Act.put, nA, nZ, nS, i64_w, i32_w];rfl;refine one_ (i := 6) (N := some 26) (bm 8 127) rfl rfl (by kernel_rfl) (by decide) (fun K hK => ?_);refine Kd.R_delete_step (xs := s) (ok := fun _ => True) itemK (w0 := W4) n (by rfl) (.tmp 22) (.tmp 25) 81 77 rfl Tryz.underlying81 infoItem1 rfl rfl ?dA rfl ?dO ?dK ?dB ?dS ?_
 (case dA => rw [show (some (⟨g, 0, none⟩ : Addr)).map (·.add ((k + 1) * itemK.sz)) = some ⟨g, (k + 1) * 8, none⟩ from by rw [Option.map_some, Addr.add_lit, Nat.zero_add]; rfl])
 (case dO => exact HRW.out)
 (case dK => omega)
 (case dB => exact Below.refl _ _)
 (case dS => exact hn4)
 intro w5 ho hb5 hg5;have HO5 := Hi ho;have HG5 := Hi hg5;clear ho hb5 hg5;refine hK.out _ _ trivial (fun hHeld => ?_);clear hK K;refine norm_ (a' := ?_) ?_ ?_;rotate_left
 ·
  show Act.put _ (some 26) _ = _
  simp only [Act.put, nA, nZ, nS, i64_w, i32_w];rfl
 refine pure_ (i := 7) (N := some 0) (v := ?_) (a' := ?_) (bm 8 255) rfl rfl (by kernel_rfl) (fun _ _ _ h => h) (Or.inl ⟨by rfl, ?_⟩) ?_ ?_;rotate_left;intro w';go_simp;(with_reducible rfl);rotate_left;simp only [Act.put, nA, nZ, nS, i64_w, i32_w];rfl;refine done_ (by kernel_rfl) ?_;have hcm : ¬ c = s.length - 1 := by omega
 have hsm : s.length - (s.length - 1) = 1 := by omega
 have hmI : ((s.length - 1 : Nat) : Int) ≤ (s.length : Int) := by omega
 have hown := own_beyond (o := (s.length - 1) * 8) (vs := zerosI) HO5.out (Nat.le_refl _) (by show _ + 8 ≤ _; omega);obtain ⟨hr6, hg6, cur, hcur, hcs⟩ := hown;have HO6 := Hi hr6;have HG6 := Hi hg6;have HRUN := Hi (run_clear_item w5 0 g ((s.length - 1) * 8) (c - (s.length - 1)) (fun j hj => by rw [cell_of hcur, Array.getElem?_eq_getElem (by omega)]; rfl) (fun j _ => frozen_of hcur _));clear hr6 hg6 hcur hcs
 go_wp2_with (first | ((with_reducible refine gate_builtin (b := .clear) (xs := #[.tmp 31]) rfl ?_); refine clear_by_run rfl (.tmp 31) rfl rfl HRUN.out ?_))
 all_goals go_ret
 all_goals first
  | exact ⟨rfl, HO6.out, grown_trans (grown_trans HGW.out HG5.out) HG6.out⟩
  | (have hck : c = k + 1 := by assumption
     rw [← hck]
     exact ⟨rfl, HO6.out, grown_trans (grown_trans HGW.out HG5.out) HG6.out⟩)
theorem tclone_some (l : List It) (ad : Addr) (c : Nat) (W : World) (hl : ItemC W (some ad) l) (hn : l.length ≤ 1000000) :
  Calls Tryz.prog 52 #[.slice (some ad) l.length c] W fun e w' => ∃ v1, e = .returned v1 ∧ itemK.R 77 w' W.heap.size (fun _ => True) v1 l ∧ Below W.heap.size W w' := by
 have q66 : ∀ (w : World) (a : Option Addr) (n c n' c' : Nat), (binOp .eql 81 (.slice a n c) (.slice none n' c')).run Tryz.prog w = .ok (.bool a.isNone) w := fun w a n c n' c' => Lib.run_eql_slice_nil w _ _ a n c n' c' Tryz.underlying81
 have HL := Hi hl;clear hl;go_enter Tryz.func52, Tryz.ntmps52
 go_wp2_with ((with_reducible refine gate_builtin (b := .append) (xs := #[.tmp 5, .tmp 6]) rfl ?_); at_builtin; generalize hmark : wpList _ _ _ _ _ _ = goal)
 rw [← hmark];clear hmark;refine Kd.R_append_rows itemK (w0 := W) W.heap.size rfl (.tmp 5) (.tmp 6) 81 77 (.agg #[.string ByteArray.empty, .int .i64 0, .int .u32 0, .int .u32 0, .int .u32 0, .int .i64 0, .int .i64 0, .string ByteArray.empty]) 72 rfl Tryz.underlying81 infoItem rfl (by decide) (by decide) _ ([] : List It) l (some ad) l.length c (fun _ => True) (fun _ => False) rfl rfl (Rr := itemK.K W) ?aO ?aR ?aP (fun _ hk => hk.elim) (fun _ _ => trivial) ?aB ?aS ?aL ?_
 case aO => exact ⟨fun _ _ => trivial, [], World.ownsRow_made W #[] 0 (Nat.le_refl _) (Nat.zero_le _) rfl, rfl, fun j p hj => by cases hj⟩
 case aR => exact Kd.C_below HL.out (below_one W _)
 case aP => exact fun x cs h => itemK_K h ▸ itemK_M _ _ _ x
 case aB => exact below_one W _
 case aS => exact (below_one W _).size
 case aL => simp; omega
 intro v1 w1 ho hb hg hat
 have HO := Hi ho;have HB := Hi hb
 clear ho hb hg hat
 go_wp2;go_ret;exact ⟨_, rfl, HO.out, HB.out⟩
theorem tclone_none (c : Nat) (W : World) : Calls Tryz.prog 52 #[.slice none 0 c] W fun e w' => e = .returned (.slice none 0 0) ∧ w' = W := by
 have q66 : ∀ (w : World) (a : Option Addr) (n c n' c' : Nat), (binOp .eql 81 (.slice a n c) (.slice none n' c')).run Tryz.prog w = .ok (.bool a.isNone) w := fun w a n c n' c' => Lib.run_eql_slice_nil w _ _ a n c n' c' Tryz.underlying81
 go_enter Tryz.func52, Tryz.ntmps52;go_wp2;go_ret;exact ⟨rfl, rfl⟩
theorem tclone_any (l : List It) (A : Option Addr) (c : Nat) (W : World) (hl : ItemC W A l) (hn : l.length ≤ 1000000) :
  Calls Tryz.prog 52 #[.slice A l.length c] W fun e w' => ∃ v1, e = .returned v1 ∧ itemK.R 77 w' W.heap.size (fun _ => True) v1 l ∧ Below W.heap.size W w' := by
 cases A with
 | some ad => exact tclone_some l ad c W hl hn
 | none =>
  have h0 : l = [] := by
   cases l with
   | nil => rfl
   | cons x t => obtain ⟨ad, e, _⟩ := hl.2.2 (by simp); cases e
  subst h0;refine (tclone_none c W).mono ?_;rintro e w' ⟨rfl, rfl⟩;exact ⟨_, rfl, Kd.R_nil _ _ _ _ _, Below.refl _ _⟩
end Go.Proofs.YtibmfjacfbpfgaaGreatDoor.DRows
namespace Go.Proofs.YtibmfjacfbpfgaaGreatDoor.DDone
open Go.RowKit YtibmfjacfbpfgaaGreatDoorW PrintWords PrintLast PrintMore NameLaw NameCmp NameWalk YtibmfjacfbpfgaaGreatDoor.Item Own Raw TreeLaw SortSwap SortIns TreeDel FillLaw RealLaw DoneLaw KeepLaw OpLaw DAt StepA DSmall DRows
theorem erase_take (s : List It) (r : Nat) : (s.eraseIdx r).take r = s.take r := by
 rw [List.eraseIdx_eq_take_drop_succ, List.take_append]
 by_cases h : r ≤ s.length
 ·
  rw [List.take_take, Nat.min_self, List.length_take, Nat.min_eq_left h, Nat.sub_self, List.take_zero, List.append_nil]
 rw [List.take_take, Nat.min_self, List.drop_of_length_le (by omega)]; simp
theorem erase_drop (s : List It) (r : Nat) : (s.eraseIdx r).drop r = s.drop (r + 1) := by
 rw [List.eraseIdx_eq_take_drop_succ, List.drop_append]
 by_cases h : r ≤ s.length
 ·
  rw [List.length_take, Nat.min_eq_left h, Nat.sub_self, List.drop_zero, List.drop_of_length_le (by rw [List.length_take]; omega), List.nil_append]
 rw [List.drop_of_length_le (l := s.take r) (by rw [List.length_take]; omega), List.drop_of_length_le (l := s) (by omega)]; simp
theorem own_put {W : World} {n g c k j : Nat} {ok : Nat → Prop} {s : List It} {u : Value} {y : It} (h : itemK.R 77 W n ok (.slice (some ⟨g, 0, none⟩) s.length c) s) (hk : k < s.length) (hj : j < 8) (hy : cellsI y = (cellsI s[k]).set j u) :
  itemK.R 77 (W.setCell ⟨g, k * 8 + j, none⟩ u) n ok (.slice (some ⟨g, 0, none⟩) s.length c) (s.set k y) ∧ W.grownBy (W.setCell ⟨g, k * 8 + j, none⟩ u) (some g) ∧ W.frozen? ⟨g, k * 8 + j, none⟩ = false := by
 obtain ⟨hok, inner, ⟨hil, hown⟩, hr⟩ := h
 rcases hown with ⟨e, _⟩ | ⟨g', cap, cur, e, hb, hh, h1, h2, h3, h4⟩
 ·
  cases e
 injection e with e1 e2 e3
 injection e1 with e1
 injection e1 with e1
 subst e1 e3;have hil' : inner.length = s.length * 8 := hil;have hbase : ∀ q p, s[q]? = some p → (inner.drop (q * 8)).take 8 = cellsI p := fun q p hq => itemK_K (itemK.K_of_M (hr.2 q p hq))
 refine ⟨⟨hok, inner.set (k * 8 + j) u, ⟨?_, .inr ⟨g, c, cur.setIfInBounds (k * 8 + j) u, by rw [List.length_set], hb, blk_set hh _ u, by rw [List.length_set]; exact h1, h2, by rw [Array.size_setIfInBounds]; exact h3, ?_⟩⟩, ?_, fun q p hq => ?_⟩, set_grown _ _ _ _, frozen_of hh _⟩
 ·
  rw [List.length_set, List.length_set]; exact hil
 ·
  have h4' : cur.toList.take (s.length * 8) = inner := h4
  show (cur.setIfInBounds (k * 8 + j) u).toList.take ((s.set k y).length * 8) = _
  rw [List.length_set, Array.toList_setIfInBounds, List.take_set, h4']
 ·
  show (inner.set (k * 8 + j) u).length = (s.set k y).length * 8
  rw [List.length_set, List.length_set]; exact hil'
 have hcs : ((inner.set (k * 8 + j) u).drop (q * 8)).take 8 = cellsI p := by
  rw [List.getElem?_set] at hq
  by_cases hqk : k = q
  ·
   subst hqk;rw [if_pos rfl, if_pos hk] at hq;injection hq with hq
   subst hq;rw [List.drop_set, if_neg (by omega), List.take_set, show k * 8 + j - k * 8 = j by omega, hbase k _ (List.getElem?_eq_getElem hk), hy]
  rw [if_neg hqk] at hq;rw [← hbase q p hq, List.drop_set]
  by_cases hlt : k * 8 + j < q * 8
  ·
   rw [if_pos hlt]
  rw [if_neg hlt, List.take_set, List.set_eq_of_length_le (by rw [List.length_take]; omega)]
 show itemK.M _ _ _ p (((inner.set (k * 8 + j) u).drop (q * 8)).take 8)
 rw [hcs];exact itemK_M _ _ _ _
theorem own_get {W : World} {n g c N k : Nat} {ok : Nat → Prop} {l : List It} {x : It} (h : itemK.R 77 W n ok (.slice (some ⟨g, 0, none⟩) N c) l) (hx : l[k]? = some x) : ∀ j u, (cellsI x)[j]? = some u → W.cell? ⟨g, k * 8 + j, none⟩ = some u := by
 intro j u hu;obtain ⟨hN, _, hC⟩ := Kd.R_reads' h;subst hN;obtain ⟨ad, e, hc⟩ := hC.2.2 (by have := (List.getElem?_eq_some_iff.1 hx).1; omega);injection e with e
 subst e;obtain ⟨cs, hl, hK, hcell⟩ := hc k _ hx;have := itemK_K hK;subst this;have h := hcell j u hu;rw [Addr.add_lit, Nat.zero_add] at h;exact h
theorem own_put2 {W : World} {n g c N k j : Nat} {ok : Nat → Prop} {s : List It} {u : Value} {x y : It} (h : itemK.R 77 W n ok (.slice (some ⟨g, 0, none⟩) N c) (s.set k x)) (hk : k < N) (hj : j < 8) (hy : cellsI y = (cellsI x).set j u) :
  itemK.R 77 (W.setCell ⟨g, k * 8 + j, none⟩ u) n ok (.slice (some ⟨g, 0, none⟩) N c) (s.set k y) ∧ W.grownBy (W.setCell ⟨g, k * 8 + j, none⟩ u) (some g) := by
 obtain ⟨hN, _, _⟩ := Kd.R_reads' h;subst hN;have h2 := own_put (y := y) (u := u) h hk hj (by rw [hy]; congr 1; rw [List.getElem_set_self]);rw [List.set_set] at h2;exact ⟨h2.1, h2.2.1⟩
theorem own_fz {W : World} {n g c N : Nat} {ok : Nat → Prop} {l : List It} (h : itemK.R 77 W n ok (.slice (some ⟨g, 0, none⟩) N c) l) (j : Nat) : W.frozen? ⟨g, j, none⟩ = false := by
 obtain ⟨cells, hc⟩ := Kd.R_typed h g rfl;exact frozen_of hc j
theorem own_form {W : World} {n : Nat} {A : Option Addr} {c : Nat} {s : List It} (h : itemK.R 77 W n (fun _ => True) (.slice A s.length c) s) (hs : 0 < s.length) : ∃ g, A = some ⟨g, 0, none⟩ ∧ n ≤ g ∧ g < W.heap.size := by
 obtain ⟨inner, hl, hown⟩ := Kd.R_own h
 rcases hown with ⟨hv, h0⟩ | ⟨g, cap, cur, hv, hb, hh, _⟩
 ·
  have : s.length = 0 := by
   injection hv
  omega
 injection hv with hv _ _
 exact ⟨g, hv, hb, (Own.lo hh)⟩
theorem done_new (W0 : World) (hg0 : Glob W0) (v : Value) (r : Nat) (s : List It) (pa tp : ByteArray) (kd mo ui gi mt at_ : Int) (da : ByteArray) (su : Bool) (W : World) (hb0 : Below W0.heap.size W0 W) (h : itemK.R 77 W W0.heap.size (fun _ => True) v s) (hs : s.length ≤ 900000) (hss : ∀ x ∈ s, x.1.size < 4294967281) (hp : pa.size < 4294967281) (h0 : hereP s pa = false) (h1 : placeP s pa = r) (hr : r ≤ s.length) :
  Calls Tryz.prog 51 #[v, .agg #[.int .i64 0, .string pa, .string tp, .int .i64 kd, .int .u32 mo, .int .u32 ui, .int .u32 gi, .int .i64 mt, .int .i64 at_, .string da, .bool su]] W fun e w' => ∃ v1, e = .returned v1 ∧ RowPost W0.heap.size W w' v v1 (s.take r ++ (pa, kd, mo, ui, gi, mt, at_, da) :: s.drop r) := by
 obtain ⟨A, c, rfl, hcap, hC⟩ := Kd.R_reads h;have hb1 := below_one W (.cells #[.int .i64 0, .string pa, .string tp, .int .i64 kd, .int .u32 mo, .int .u32 ui, .int .u32 gi, .int .i64 mt, .int .i64 at_, .string da, .bool su] 93);have HC := Hi (at_any s A c pa _ (hg0.below (hb0.trans (hb1.mono hb0.size))) (Kd.C_below hC hb1) (by omega) hss hp);rw [h0, h1] at HC;have HB1 := Hi hb1;have HK1 := Hi (heap_new W (.cells #[.int .i64 0, .string pa, .string tp, .int .i64 kd, .int .u32 mo, .int .u32 ui, .int .u32 gi, .int .i64 mt, .int .i64 at_, .string da, .bool su] 93));have k1 : (W.alloc (.cells #[.int .i64 0, .string pa, .string tp, .int .i64 kd, .int .u32 mo, .int .u32 ui, .int .u32 gi, .int .i64 mt, .int .i64 at_, .string da, .bool su] 93)).cell? ⟨W.heap.size, 1, none⟩ = some (.string pa) := by rw [cell_of (heap_new W _)]; rfl
 have HR := Hi h;have HCC := Hi hC;have HB0 := Hi hb0;clear h hC hg0 hss hb1 hb0;clear h0 h1;go_enter Tryz.func51, Tryz.ntmps51
 go_wp2_with fail
 generalize W.alloc (.cells #[.int .i64 0, .string pa, .string tp, .int .i64 kd, .int .u32 mo, .int .u32 ui, .int .u32 gi, .int .i64 mt, .int .i64 at_, .string da, .bool su] 93) = W1 at *;obtain ⟨bb, hbb⟩ : ∃ bb, bb = W.heap.size := ⟨_, rfl⟩;rw [← hbb] at HK1 k1 ⊢;refine HC.out.mono ?_;rintro e W2 ⟨rfl, hb2⟩;have HB2 := Hi (below_next HB1.out hb2);have HK := Own.kp hb2 HK1.out;have HR2 := Hi (Kd.R_below HR.out HB2.out);clear hb2 k1 HC HB1 HK1;clear hbb;obtain ⟨k0, k1, k2, k3, k4, k5, k6, k7, k8, k9, k10⟩ := Own.cs11 HK;clear HK;have hb3 := below_one W2 (.cells #[.string pa, .int .i64 kd, .int .u32 mo, .int .u32 ui, .int .u32 gi, .int .i64 mt, .int .i64 at_, .string da] 77);have HB3 := Hi (below_next HB2.out hb3);have HI := Hi (tinsert_any W0 (.slice A s.length c) r W2.heap.size pa kd mo ui gi mt at_ da s (W2.alloc (.cells #[.string pa, .int .i64 kd, .int .u32 mo, .int .u32 ui, .int .u32 gi, .int .i64 mt, .int .i64 at_, .string da] 77)) (by omega) hr (HB0.out.trans (HB3.out.mono HB0.out.size)) (Kd.R_below HR2.out hb3) (heap_new W2 _) (fun e => by have := Kd.R_lt HR2.out _ e.symm; omega));clear hb3
 go_wp2_with fail
 refine HI.out.mono ?_;rintro e W4 ⟨v1, rfl, hp4⟩;have HP := Hi (RowPost.pre (v := .slice A s.length c) HB3.out hp4);clear hp4 HI;go_wp2;go_ret;exact ⟨_, rfl, HP.out⟩
theorem done_old (W0 : World) (hg0 : Glob W0) (g c : Nat) (s : List It) (pa tp : ByteArray) (kd mo ui gi mt at_ : Int) (da : ByteArray) (su : Bool) (W : World) (hb0 : Below W0.heap.size W0 W) (h : itemK.R 77 W W0.heap.size (fun _ => True) (.slice (some ⟨g, 0, none⟩) s.length c) s) (hs : s.length ≤ 900000) (hss : ∀ x ∈ s, x.1.size < 4294967281) (hp : pa.size < 4294967281) (r : Nat) (hr : placeP s pa = r) (h0 : hereP s pa = true) (h1 : r < s.length) :
  Calls Tryz.prog 51 #[(.slice (some ⟨g, 0, none⟩) s.length c), .agg #[.int .i64 0, .string pa, .string tp, .int .i64 kd, .int .u32 mo, .int .u32 ui, .int .u32 gi, .int .i64 mt, .int .i64 at_, .string da, .bool su]] W fun e w' => ∃ v1, e = .returned v1 ∧ RowPost W0.heap.size W w' (.slice (some ⟨g, 0, none⟩) s.length c) v1 (s.take r ++ (pa, kd, mo, ui, gi, mt, at_, da) :: s.drop (r + 1)) := by
 obtain ⟨A, c', he, hcap, hC⟩ := Kd.R_reads h;injection he with e1 e2 e3
 subst e1 e3;have HDEL : Hid (∀ W' : World, itemK.R 77 W' W0.heap.size (fun _ => True) (.slice (some ⟨g, 0, none⟩) s.length c) s → W0.heap.size ≤ W'.heap.size → Calls Tryz.prog 85 #[.slice (some ⟨g, 0, none⟩) s.length c, .int .i64 r, .int .i64 ((r : Int) + 1)] W' fun e w' => e = .returned (.slice (some ⟨g, 0, none⟩) (s.length - 1) c) ∧ itemK.R 77 w' W0.heap.size (fun _ => True) (.slice (some ⟨g, 0, none⟩) (s.length - 1) c) (s.eraseIdx r) ∧ W'.grownBy w' (some g)) := Hi (fun W' hh hn' => delete_one _ g r c s W' hh h1 hn' (by omega));have hwr : Go.RowKit.wrap64 ((r : Int) + 1) = (r : Int) + 1 := by unfold Go.RowKit.wrap64; omega
 have hrI : (r : Int) < (s.length : Int) := by omega
 have HGN := Hi (Kd.R_base h g rfl);have hgl := Kd.R_lt h g rfl;have hb1 := below_one W (.cells #[.int .i64 0, .string pa, .string tp, .int .i64 kd, .int .u32 mo, .int .u32 ui, .int .u32 gi, .int .i64 mt, .int .i64 at_, .string da, .bool su] 93);have HC := Hi (at_any s _ c pa _ (hg0.below (hb0.trans (hb1.mono hb0.size))) (Kd.C_below hC hb1) (by omega) hss hp);rw [h0, hr] at HC;have HB1 := Hi hb1;have HK1 := Hi (heap_new W (.cells #[.int .i64 0, .string pa, .string tp, .int .i64 kd, .int .u32 mo, .int .u32 ui, .int .u32 gi, .int .i64 mt, .int .i64 at_, .string da, .bool su] 93));have k1 : (W.alloc (.cells #[.int .i64 0, .string pa, .string tp, .int .i64 kd, .int .u32 mo, .int .u32 ui, .int .u32 gi, .int .i64 mt, .int .i64 at_, .string da, .bool su] 93)).cell? ⟨W.heap.size, 1, none⟩ = some (.string pa) := by rw [cell_of (heap_new W _)]; rfl
 have HR := Hi h;have HCC := Hi hC;have HB0 := Hi hb0;clear h hC hg0 hss hb1 hb0;clear h0 hr;go_enter Tryz.func51, Tryz.ntmps51
 go_wp2_with fail
 generalize W.alloc (.cells #[.int .i64 0, .string pa, .string tp, .int .i64 kd, .int .u32 mo, .int .u32 ui, .int .u32 gi, .int .i64 mt, .int .i64 at_, .string da, .bool su] 93) = W1 at *;obtain ⟨bb, hbb⟩ : ∃ bb, bb = W.heap.size := ⟨_, rfl⟩;rw [← hbb] at HK1 k1 ⊢;refine HC.out.mono ?_;rintro e W2 ⟨rfl, hb2⟩;have HB2 := Hi (below_next HB1.out hb2);have HK := Own.kp hb2 HK1.out;have HR2 := Hi (Kd.R_below HR.out HB2.out);clear hb2 k1 HC HB1 HK1;have HBG := Hi (show bb ≠ g by omega);clear hbb;obtain ⟨k0, k1, k2, k3, k4, k5, k6, k7, k8, k9, k10⟩ := Own.cs11 HK;have HKK := Hi HK;clear HK
 go_wp2_with fail
 with_reducible refine (HDEL.out _ HR2.out (HB0.out.trans (HB2.out.mono HB0.out.size)).size).mono ?_
 rintro e W5 ⟨rfl, ho5, hg5⟩;have HO5 := Hi ho5;have HG5 := Hi (grown_trans (grown_of_below HB2.out (some g)) hg5);have HB5 := Hi (below_of_grown (HB0.out.trans (HB2.out.mono HB0.out.size)) (Nat.le_refl _) hg5 (fun x hx => by injection hx with hx; have := HGN.out; omega));have HK5 := (hg5.block bb (Own.lo HKK.out) (fun e => HBG.out (by injection e))).trans HKK.out;clear hg5 ho5 k0 k1 k2 k3 k4 k5 k6 k7 k8 k9 k10;obtain ⟨k0, k1, k2, k3, k4, k5, k6, k7, k8, k9, k10⟩ := Own.cs11 HK5;clear HK5;have hle : (s.eraseIdx r).length = s.length - 1 := List.length_eraseIdx_of_lt h1;have hb3 := below_one W5 (.cells #[.string pa, .int .i64 kd, .int .u32 mo, .int .u32 ui, .int .u32 gi, .int .i64 mt, .int .i64 at_, .string da] 77);have hA1 : (s.eraseIdx r).length ≤ 1000000 := by rw [hle]; omega
 have hA2 : r ≤ (s.eraseIdx r).length := by rw [hle]; omega
 have hA3 := Kd.R_below HO5.out hb3;have hA4 := below_next HB5.out hb3;have hA5 : some W5.heap.size ≠ (Value.slice (some ⟨g, 0, none⟩) (s.length - 1) c).ownBlock := fun e => Nat.lt_irrefl _ (Kd.R_lt HO5.out _ e.symm)
 have HI := tinsert_any W0 (.slice (some ⟨g, 0, none⟩) (s.length - 1) c) r W5.heap.size pa kd mo ui gi mt at_ da (s.eraseIdx r) (W5.alloc (.cells #[.string pa, .int .i64 kd, .int .u32 mo, .int .u32 ui, .int .u32 gi, .int .i64 mt, .int .i64 at_, .string da] 77)) hA1 hA2 hA4 hA3 (heap_new W5 _) hA5;clear hA1 hA2 hA3 hA4 hA5;rw [erase_take, erase_drop] at HI;have HI := Hi HI;have HG6 := Hi (grown_trans HG5.out (grown_of_below hb3 (some g)));clear hb3
 go_wp2_with fail
 refine HI.out.mono ?_;rintro e W7 ⟨v1, rfl, hp7⟩;have HP := Hi (RowPost.two (v := (.slice (some ⟨g, 0, none⟩) s.length c)) (v1 := .slice (some ⟨g, 0, none⟩) (s.length - 1) c) ⟨Kd.R_below HO5.out (below_one _ _), HG6.out, .inl rfl⟩ hp7);clear hp7 HI;go_wp2;go_ret;exact ⟨_, rfl, HP.out⟩
theorem done_gone (W0 : World) (hg0 : Glob W0) (g c : Nat) (s : List It) (pa tp : ByteArray) (kd mo ui gi mt at_ : Int) (da : ByteArray) (su : Bool) (W : World) (hb0 : Below W0.heap.size W0 W) (h : itemK.R 77 W W0.heap.size (fun _ => True) (.slice (some ⟨g, 0, none⟩) s.length c) s) (hs : s.length ≤ 900000) (hss : ∀ x ∈ s, x.1.size < 4294967281) (hp : pa.size < 4294967281) (r : Nat) (hr : placeP s pa = r) (h0 : hereP s pa = true) (h1 : r < s.length) :
  Calls Tryz.prog 51 #[(.slice (some ⟨g, 0, none⟩) s.length c), .agg #[.int .i64 2, .string pa, .string tp, .int .i64 kd, .int .u32 mo, .int .u32 ui, .int .u32 gi, .int .i64 mt, .int .i64 at_, .string da, .bool su]] W fun e w' => ∃ v1, e = .returned v1 ∧ RowPost W0.heap.size W w' (.slice (some ⟨g, 0, none⟩) s.length c) v1 (s.eraseIdx r) := by
 obtain ⟨A, c', he, hcap, hC⟩ := Kd.R_reads h;injection he with e1 e2 e3
 subst e1 e3;have HDEL : Hid (∀ W' : World, itemK.R 77 W' W0.heap.size (fun _ => True) (.slice (some ⟨g, 0, none⟩) s.length c) s → W0.heap.size ≤ W'.heap.size → Calls Tryz.prog 85 #[.slice (some ⟨g, 0, none⟩) s.length c, .int .i64 r, .int .i64 ((r : Int) + 1)] W' fun e w' => e = .returned (.slice (some ⟨g, 0, none⟩) (s.length - 1) c) ∧ itemK.R 77 w' W0.heap.size (fun _ => True) (.slice (some ⟨g, 0, none⟩) (s.length - 1) c) (s.eraseIdx r) ∧ W'.grownBy w' (some g)) := Hi (fun W' hh hn' => delete_one _ g r c s W' hh h1 hn' (by omega));have hwr : Go.RowKit.wrap64 ((r : Int) + 1) = (r : Int) + 1 := by unfold Go.RowKit.wrap64; omega
 have hrI : (r : Int) < (s.length : Int) := by omega
 have hb1 := below_one W (.cells #[.int .i64 2, .string pa, .string tp, .int .i64 kd, .int .u32 mo, .int .u32 ui, .int .u32 gi, .int .i64 mt, .int .i64 at_, .string da, .bool su] 93);have HC := Hi (at_any s _ c pa _ (hg0.below (hb0.trans (hb1.mono hb0.size))) (Kd.C_below hC hb1) (by omega) hss hp);rw [h0, hr] at HC;have HB1 := Hi hb1;have HK1 := Hi (heap_new W (.cells #[.int .i64 2, .string pa, .string tp, .int .i64 kd, .int .u32 mo, .int .u32 ui, .int .u32 gi, .int .i64 mt, .int .i64 at_, .string da, .bool su] 93));have k1 : (W.alloc (.cells #[.int .i64 2, .string pa, .string tp, .int .i64 kd, .int .u32 mo, .int .u32 ui, .int .u32 gi, .int .i64 mt, .int .i64 at_, .string da, .bool su] 93)).cell? ⟨W.heap.size, 1, none⟩ = some (.string pa) := by rw [cell_of (heap_new W _)]; rfl
 have HR := Hi h;have HCC := Hi hC;have HB0 := Hi hb0;clear h hC hg0 hss hb1 hb0;clear h0 hr;go_enter Tryz.func51, Tryz.ntmps51
 go_wp2_with fail
 generalize W.alloc (.cells #[.int .i64 2, .string pa, .string tp, .int .i64 kd, .int .u32 mo, .int .u32 ui, .int .u32 gi, .int .i64 mt, .int .i64 at_, .string da, .bool su] 93) = W1 at *;obtain ⟨bb, hbb⟩ : ∃ bb, bb = W.heap.size := ⟨_, rfl⟩;rw [← hbb] at HK1 k1 ⊢;refine HC.out.mono ?_;rintro e W2 ⟨rfl, hb2⟩;have HB2 := Hi (below_next HB1.out hb2);have HK := Own.kp hb2 HK1.out;have HR2 := Hi (Kd.R_below HR.out HB2.out);clear hb2 k1 HC HB1 HK1;clear hbb;obtain ⟨k0, k1, k2, k3, k4, k5, k6, k7, k8, k9, k10⟩ := Own.cs11 HK;clear HK
 go_wp2_with fail
 with_reducible refine (HDEL.out _ HR2.out (HB0.out.trans (HB2.out.mono HB0.out.size)).size).mono ?_
 rintro e W5 ⟨rfl, ho5, hg5⟩;have HP := Hi (RowPost.pre (v := (.slice (some ⟨g, 0, none⟩) s.length c)) HB2.out ⟨ho5, hg5, .inl rfl⟩);clear hg5 ho5;go_wp2;go_ret;exact ⟨_, rfl, HP.out⟩
theorem done_miss (W0 : World) (hg0 : Glob W0) (v : Value) (k : Int) (s : List It) (pa tp : ByteArray) (kd mo ui gi mt at_ : Int) (da : ByteArray) (su : Bool) (W : World) (hb0 : Below W0.heap.size W0 W) (h : itemK.R 77 W W0.heap.size (fun _ => True) v s) (hs : s.length ≤ 900000) (hss : ∀ x ∈ s, x.1.size < 4294967281) (hp : pa.size < 4294967281) (hk : k = 1 ∨ k = 2 ∨ k = 3 ∨ k = 4) (h0 : hereP s pa = false) :
  Calls Tryz.prog 51 #[v, .agg #[.int .i64 k, .string pa, .string tp, .int .i64 kd, .int .u32 mo, .int .u32 ui, .int .u32 gi, .int .i64 mt, .int .i64 at_, .string da, .bool su]] W fun e w' => ∃ v1, e = .returned v1 ∧ RowPost W0.heap.size W w' v v1 (s) := by
 obtain ⟨A, c, rfl, hcap, hC⟩ := Kd.R_reads h;have hb1 := below_one W (.cells #[.int .i64 k, .string pa, .string tp, .int .i64 kd, .int .u32 mo, .int .u32 ui, .int .u32 gi, .int .i64 mt, .int .i64 at_, .string da, .bool su] 93);have HC := Hi (at_any s A c pa _ (hg0.below (hb0.trans (hb1.mono hb0.size))) (Kd.C_below hC hb1) (by omega) hss hp);rw [h0] at HC;have HB1 := Hi hb1;have HK1 := Hi (heap_new W (.cells #[.int .i64 k, .string pa, .string tp, .int .i64 kd, .int .u32 mo, .int .u32 ui, .int .u32 gi, .int .i64 mt, .int .i64 at_, .string da, .bool su] 93));have k1 : (W.alloc (.cells #[.int .i64 k, .string pa, .string tp, .int .i64 kd, .int .u32 mo, .int .u32 ui, .int .u32 gi, .int .i64 mt, .int .i64 at_, .string da, .bool su] 93)).cell? ⟨W.heap.size, 1, none⟩ = some (.string pa) := by rw [cell_of (heap_new W _)]; rfl
 have HR := Hi h;have HCC := Hi hC;have HB0 := Hi hb0;clear h hC hg0 hss hb1 hb0;generalize placeP s pa = r at *;have HKK := Hi hk;clear hk;go_enter Tryz.func51, Tryz.ntmps51
 go_wp2_with fail
 generalize W.alloc (.cells #[.int .i64 k, .string pa, .string tp, .int .i64 kd, .int .u32 mo, .int .u32 ui, .int .u32 gi, .int .i64 mt, .int .i64 at_, .string da, .bool su] 93) = W1 at *;obtain ⟨bb, hbb⟩ : ∃ bb, bb = W.heap.size := ⟨_, rfl⟩;rw [← hbb] at HK1 k1 ⊢;refine HC.out.mono ?_;rintro e W2 ⟨rfl, hb2⟩;have HB2 := Hi (below_next HB1.out hb2);have HK := Own.kp hb2 HK1.out;have HR2 := Hi (Kd.R_below HR.out HB2.out);clear hb2 k1 HC HB1 HK1;clear hbb;obtain ⟨k0, k1, k2, k3, k4, k5, k6, k7, k8, k9, k10⟩ := Own.cs11 HK;clear HK
 rcases HKK.out with rfl | rfl | rfl | rfl <;> (
  go_wp2;go_ret
  exact ⟨_, rfl, HR2.out, grown_of_below HB2.out _, .inl rfl⟩)
theorem done_same (W0 : World) (hg0 : Glob W0) (v : Value) (s : List It) (pa tp : ByteArray) (kd mo ui gi mt at_ : Int) (da : ByteArray) (su : Bool) (W : World) (hb0 : Below W0.heap.size W0 W) (h : itemK.R 77 W W0.heap.size (fun _ => True) v s) (hs : s.length ≤ 900000) (hss : ∀ x ∈ s, x.1.size < 4294967281) (hp : pa.size < 4294967281) (h0 : hereP s pa = true) (htp : pa = tp) :
  Calls Tryz.prog 51 #[v, .agg #[.int .i64 3, .string pa, .string tp, .int .i64 kd, .int .u32 mo, .int .u32 ui, .int .u32 gi, .int .i64 mt, .int .i64 at_, .string da, .bool su]] W fun e w' => ∃ v1, e = .returned v1 ∧ RowPost W0.heap.size W w' v v1 (s) := by
 obtain ⟨A, c, rfl, hcap, hC⟩ := Kd.R_reads h;have hb1 := below_one W (.cells #[.int .i64 3, .string pa, .string tp, .int .i64 kd, .int .u32 mo, .int .u32 ui, .int .u32 gi, .int .i64 mt, .int .i64 at_, .string da, .bool su] 93);have HC := Hi (at_any s A c pa _ (hg0.below (hb0.trans (hb1.mono hb0.size))) (Kd.C_below hC hb1) (by omega) hss hp);rw [h0] at HC;have HB1 := Hi hb1;have HK1 := Hi (heap_new W (.cells #[.int .i64 3, .string pa, .string tp, .int .i64 kd, .int .u32 mo, .int .u32 ui, .int .u32 gi, .int .i64 mt, .int .i64 at_, .string da, .bool su] 93));have k1 : (W.alloc (.cells #[.int .i64 3, .string pa, .string tp, .int .i64 kd, .int .u32 mo, .int .u32 ui, .int .u32 gi, .int .i64 mt, .int .i64 at_, .string da, .bool su] 93)).cell? ⟨W.heap.size, 1, none⟩ = some (.string pa) := by rw [cell_of (heap_new W _)]; rfl
 have HR := Hi h;have HCC := Hi hC;have HB0 := Hi hb0;clear h hC hg0 hss hb1 hb0;subst htp;have qs : (pa.toList == pa.toList) = true := by simp
 have qn : (pa.toList != pa.toList) = false := by simp
 generalize placeP s pa = r at *;go_enter Tryz.func51, Tryz.ntmps51
 go_wp2_with fail
 generalize W.alloc (.cells #[.int .i64 3, .string pa, .string pa, .int .i64 kd, .int .u32 mo, .int .u32 ui, .int .u32 gi, .int .i64 mt, .int .i64 at_, .string da, .bool su] 93) = W1 at *;obtain ⟨bb, hbb⟩ : ∃ bb, bb = W.heap.size := ⟨_, rfl⟩;rw [← hbb] at HK1 k1 ⊢;refine HC.out.mono ?_;rintro e W2 ⟨rfl, hb2⟩;have HB2 := Hi (below_next HB1.out hb2);have HK := Own.kp hb2 HK1.out;have HR2 := Hi (Kd.R_below HR.out HB2.out);clear hb2 k1 HC HB1 HK1;clear hbb;obtain ⟨k0, k1, k2, k3, k4, k5, k6, k7, k8, k9, k10⟩ := Own.cs11 HK;clear HK;skip;go_wp2;go_ret;exact ⟨_, rfl, HR2.out, grown_of_below HB2.out _, .inl rfl⟩
theorem done_fill (W0 : World) (hg0 : Glob W0) (g c : Nat) (s : List It) (pa tp : ByteArray) (kd mo ui gi mt at_ : Int) (da : ByteArray) (su : Bool) (W : World) (hb0 : Below W0.heap.size W0 W) (h : itemK.R 77 W W0.heap.size (fun _ => True) (.slice (some ⟨g, 0, none⟩) s.length c) s) (hs : s.length ≤ 900000) (hss : ∀ x ∈ s, x.1.size < 4294967281) (hp : pa.size < 4294967281) (r : Nat) (hr : placeP s pa = r) (h0 : hereP s pa = true) (h1 : r < s.length) (y : It) (hy : cellsI y = (cellsI s[r]).set 7 (.string da)) :
  Calls Tryz.prog 51 #[(.slice (some ⟨g, 0, none⟩) s.length c), .agg #[.int .i64 1, .string pa, .string tp, .int .i64 kd, .int .u32 mo, .int .u32 ui, .int .u32 gi, .int .i64 mt, .int .i64 at_, .string da, .bool su]] W fun e w' => ∃ v1, e = .returned v1 ∧ RowPost W0.heap.size W w' (.slice (some ⟨g, 0, none⟩) s.length c) v1 (s.set r y) := by
 obtain ⟨A, c', he, hcap, hC⟩ := Kd.R_reads h;injection he with e1 e2 e3
 subst e1 e3;have hrI : (r : Int) < (s.length : Int) := by omega
 have HY := Hi hy;clear hy;have hb1 := below_one W (.cells #[.int .i64 1, .string pa, .string tp, .int .i64 kd, .int .u32 mo, .int .u32 ui, .int .u32 gi, .int .i64 mt, .int .i64 at_, .string da, .bool su] 93);have HC := Hi (at_any s _ c pa _ (hg0.below (hb0.trans (hb1.mono hb0.size))) (Kd.C_below hC hb1) (by omega) hss hp);rw [h0, hr] at HC;have HB1 := Hi hb1;have HK1 := Hi (heap_new W (.cells #[.int .i64 1, .string pa, .string tp, .int .i64 kd, .int .u32 mo, .int .u32 ui, .int .u32 gi, .int .i64 mt, .int .i64 at_, .string da, .bool su] 93));have k1 : (W.alloc (.cells #[.int .i64 1, .string pa, .string tp, .int .i64 kd, .int .u32 mo, .int .u32 ui, .int .u32 gi, .int .i64 mt, .int .i64 at_, .string da, .bool su] 93)).cell? ⟨W.heap.size, 1, none⟩ = some (.string pa) := by rw [cell_of (heap_new W _)]; rfl
 have HR := Hi h;have HCC := Hi hC;have HB0 := Hi hb0;clear h hC hg0 hss hb1 hb0;clear h0 hr;go_enter Tryz.func51, Tryz.ntmps51
 go_wp2_with fail
 generalize W.alloc (.cells #[.int .i64 1, .string pa, .string tp, .int .i64 kd, .int .u32 mo, .int .u32 ui, .int .u32 gi, .int .i64 mt, .int .i64 at_, .string da, .bool su] 93) = W1 at *;obtain ⟨bb, hbb⟩ : ∃ bb, bb = W.heap.size := ⟨_, rfl⟩;rw [← hbb] at HK1 k1 ⊢;refine HC.out.mono ?_;rintro e W2 ⟨rfl, hb2⟩;have HB2 := Hi (below_next HB1.out hb2);have HK := Own.kp hb2 HK1.out;have HR2 := Hi (Kd.R_below HR.out HB2.out);clear hb2 k1 HC HB1 HK1;clear hbb;obtain ⟨ad, hade, _, _, _, _, _, _, _, e7⟩ := item_at (Kd.C_below HCC.out HB2.out) h1;injection hade with hade
 subst hade;have hadd : (⟨g, 0, none⟩ : Addr).add (r * 8) = ⟨g, r * 8, none⟩ := by rw [Addr.add_lit, Nat.zero_add]
 rw [hadd] at e7;have HPT := own_put (j := 7) HR2.out h1 (by decide) HY.out;have z7 := HPT.2.2;have HPT := Hi HPT;obtain ⟨k0, k1, k2, k3, k4, k5, k6, k7, k8, k9, k10⟩ := Own.cs11 HK;clear HK;go_wp2;go_ret;exact ⟨_, rfl, RowPost.pre (v := (.slice (some ⟨g, 0, none⟩) s.length c)) HB2.out ⟨HPT.out.1, HPT.out.2.1, .inl rfl⟩⟩
theorem done_move (W0 : World) (hg0 : Glob W0) (g c : Nat) (s : List It) (pa tp : ByteArray) (kd mo ui gi mt at_ : Int) (da : ByteArray) (su : Bool) (W : World) (hb0 : Below W0.heap.size W0 W) (h : itemK.R 77 W W0.heap.size (fun _ => True) (.slice (some ⟨g, 0, none⟩) s.length c) s) (hs : s.length ≤ 900000) (hss : ∀ x ∈ s, x.1.size < 4294967281) (hp : pa.size < 4294967281) (r : Nat) (hr : placeP s pa = r) (h0 : hereP s pa = true) (h1 : r < s.length) (hne : (pa.toList == tp.toList) = false) (px : ByteArray) (kx mx ux gx tx ax : Int) (dx : ByteArray) (hx : s[r] = (px, kx, mx, ux, gx, tx, ax, dx)) (s2 : List It) (hdp : ∀ w5, itemK.R 77 w5 W0.heap.size (fun _ => True) (.slice (some ⟨g, 0, none⟩) (s.length - 1) c) (s.eraseIdx r) → Below W0.heap.size W0 w5 → Calls Tryz.prog 51 #[.slice (some ⟨g, 0, none⟩) (s.length - 1) c, .agg #[.int .i64 0, .string tp, .string ⟨#[]⟩, .int .i64 kx, .int .u32 mx, .int .u32 ux, .int .u32 gx, .int .i64 tx, .int .i64 ax, .string dx, .bool false]] w5 fun e w' => ∃ v1, e = .returned v1 ∧ RowPost W0.heap.size w5 w' (.slice (some ⟨g, 0, none⟩) (s.length - 1) c) v1 s2) :
  Calls Tryz.prog 51 #[(.slice (some ⟨g, 0, none⟩) s.length c), .agg #[.int .i64 3, .string pa, .string tp, .int .i64 kd, .int .u32 mo, .int .u32 ui, .int .u32 gi, .int .i64 mt, .int .i64 at_, .string da, .bool su]] W fun e w' => ∃ v1, e = .returned v1 ∧ RowPost W0.heap.size W w' (.slice (some ⟨g, 0, none⟩) s.length c) v1 (s2) := by
 obtain ⟨A, c', he, hcap, hC⟩ := Kd.R_reads h;injection he with e1 e2 e3
 subst e1 e3
 have HDEL : Hid (∀ W' : World, itemK.R 77 W' W0.heap.size (fun _ => True) (.slice (some ⟨g, 0, none⟩) s.length c) s → W0.heap.size ≤ W'.heap.size → Calls Tryz.prog 85 #[.slice (some ⟨g, 0, none⟩) s.length c, .int .i64 r, .int .i64 (Go.RowKit.wrap64 ((r : Int) + 1))] W' fun e w' => e = .returned (.slice (some ⟨g, 0, none⟩) (s.length - 1) c) ∧ itemK.R 77 w' W0.heap.size (fun _ => True) (.slice (some ⟨g, 0, none⟩) (s.length - 1) c) (s.eraseIdx r) ∧ W'.grownBy w' (some g)) := Hi (fun W' hh hn' => by
  rw [show Go.RowKit.wrap64 ((r : Int) + 1) = (r : Int) + 1 by unfold Go.RowKit.wrap64; omega]
  exact delete_one _ g r c s W' hh h1 hn' (by omega))
 have hrI : (r : Int) < (s.length : Int) := by omega
 have HGN := Hi (Kd.R_base h g rfl);have hgl := Kd.R_lt h g rfl;have HDP := Hi hdp;have HX := Hi hx;clear hdp hx;have hb1 := below_one W (.cells #[.int .i64 3, .string pa, .string tp, .int .i64 kd, .int .u32 mo, .int .u32 ui, .int .u32 gi, .int .i64 mt, .int .i64 at_, .string da, .bool su] 93);have HC := Hi (at_any s _ c pa _ (hg0.below (hb0.trans (hb1.mono hb0.size))) (Kd.C_below hC hb1) (by omega) hss hp);rw [h0, hr] at HC;have HB1 := Hi hb1;have HK1 := Hi (heap_new W (.cells #[.int .i64 3, .string pa, .string tp, .int .i64 kd, .int .u32 mo, .int .u32 ui, .int .u32 gi, .int .i64 mt, .int .i64 at_, .string da, .bool su] 93));have k1 : (W.alloc (.cells #[.int .i64 3, .string pa, .string tp, .int .i64 kd, .int .u32 mo, .int .u32 ui, .int .u32 gi, .int .i64 mt, .int .i64 at_, .string da, .bool su] 93)).cell? ⟨W.heap.size, 1, none⟩ = some (.string pa) := by rw [cell_of (heap_new W _)]; rfl
 have HR := Hi h;have HCC := Hi hC;have HB0 := Hi hb0;clear h hC hg0 hss hb1 hb0;clear h0 hr;go_enter Tryz.func51, Tryz.ntmps51
 go_wp2_with fail
 generalize W.alloc (.cells #[.int .i64 3, .string pa, .string tp, .int .i64 kd, .int .u32 mo, .int .u32 ui, .int .u32 gi, .int .i64 mt, .int .i64 at_, .string da, .bool su] 93) = W1 at *;obtain ⟨bb, hbb⟩ : ∃ bb, bb = W.heap.size := ⟨_, rfl⟩;rw [← hbb] at HK1 k1 ⊢;refine HC.out.mono ?_;rintro e W2 ⟨rfl, hb2⟩;have HB2 := Hi (below_next HB1.out hb2);have HK := Own.kp hb2 HK1.out;have HR2 := Hi (Kd.R_below HR.out HB2.out);clear hb2 k1 HC HB1 HK1;have HBG := Hi (show bb ≠ g by omega);clear hbb;obtain ⟨ad, hade, e0, e1, e2, e3, e4, e5, e6, e7⟩ := item_at (Kd.C_below HCC.out HB2.out) h1;injection hade with hade
 subst hade;have hadd : (⟨g, 0, none⟩ : Addr).add (r * 8) = ⟨g, r * 8, none⟩ := by rw [Addr.add_lit, Nat.zero_add]
 rw [HX.out, hadd] at e0 e1 e2 e3 e4 e5 e6 e7;simp only at e0 e1 e2 e3 e4 e5 e6 e7;clear HCC;have k0 : W2.cell? ⟨bb, 0, none⟩ = some (.int .i64 3) := by rw [cell_of HK]; rfl
 have k1 : W2.cell? ⟨bb, 1, none⟩ = some (.string pa) := by rw [cell_of HK]; rfl
 have k2 : W2.cell? ⟨bb, 2, none⟩ = some (.string tp) := by rw [cell_of HK]; rfl
 have HKK := Hi HK;clear HK;have hb3 := below_one W2 (.cells #[.int .i64 kx, .int .u32 mx, .int .u32 ux, .int .u32 gx, .int .i64 tx, .int .i64 ax, .string dx] 34);have HB3 := Hi (below_next HB2.out hb3);have HR3 := Hi (Kd.R_below HR2.out hb3);have HN3 := Hi (heap_new W2 (.cells #[.int .i64 kx, .int .u32 mx, .int .u32 ux, .int .u32 gx, .int .i64 tx, .int .i64 ax, .string dx] 34));have HK3 := Hi (Own.kp hb3 HKK.out);have H7G := Hi (show W2.heap.size ≠ g by have := HB2.out.size; omega);clear hb3;go_wp2;generalize W2.alloc (.cells #[.int .i64 kx, .int .u32 mx, .int .u32 ux, .int .u32 gx, .int .i64 tx, .int .i64 ax, .string dx] 34) = W3 at *;generalize W2.heap.size = b7 at *;have HR4 : Hid (itemK.R 77 W3.drew W0.heap.size (fun _ => True) (.slice (some ⟨g, 0, none⟩) s.length c) s) := Hi (Kd.R_below HR3.out (below_drew (Below.refl _ _)));have HB4 : Hid (Below W0.heap.size W0 W3.drew) := Hi (below_drew (HB0.out.trans (HB3.out.mono HB0.out.size)));have hn4 : W0.heap.size ≤ W3.drew.heap.size := HB4.out.size;have HG4 : Hid (W.grownBy W3.drew (some g)) := Hi (grown_of_below (below_drew HB3.out) _);have p0 : W3.drew.cell? ⟨bb, 2, none⟩ = some (.string tp) := by show W3.cell? _ = _; rw [cell_of HK3.out]; rfl
 have p1 : W3.drew.cell? ⟨b7, 0, none⟩ = some (.int .i64 kx) := by show W3.cell? _ = _; rw [cell_of HN3.out]; rfl
 have p2 : W3.drew.cell? ⟨b7, 1, none⟩ = some (.int .u32 mx) := by show W3.cell? _ = _; rw [cell_of HN3.out]; rfl
 have p3 : W3.drew.cell? ⟨b7, 2, none⟩ = some (.int .u32 ux) := by show W3.cell? _ = _; rw [cell_of HN3.out]; rfl
 have p4 : W3.drew.cell? ⟨b7, 3, none⟩ = some (.int .u32 gx) := by show W3.cell? _ = _; rw [cell_of HN3.out]; rfl
 have p5 : W3.drew.cell? ⟨b7, 4, none⟩ = some (.int .i64 tx) := by show W3.cell? _ = _; rw [cell_of HN3.out]; rfl
 have p6 : W3.drew.cell? ⟨b7, 5, none⟩ = some (.int .i64 ax) := by show W3.cell? _ = _; rw [cell_of HN3.out]; rfl
 have p7 : W3.drew.cell? ⟨b7, 6, none⟩ = some (.string dx) := by show W3.cell? _ = _; rw [cell_of HN3.out]; rfl
 refine start_ (n := 11) (S := fun w' => w'.cell? ⟨bb, 2, none⟩ = some (.string tp) ∧ w'.cell? ⟨b7, 0, none⟩ = some (.int .i64 kx) ∧ w'.cell? ⟨b7, 1, none⟩ = some (.int .u32 mx) ∧ w'.cell? ⟨b7, 2, none⟩ = some (.int .u32 ux) ∧ w'.cell? ⟨b7, 3, none⟩ = some (.int .u32 gx) ∧ w'.cell? ⟨b7, 4, none⟩ = some (.int .i64 tx) ∧ w'.cell? ⟨b7, 5, none⟩ = some (.int .i64 ax) ∧ w'.cell? ⟨b7, 6, none⟩ = some (.string dx)) (ds := [9]) (bm 11 0) (by kernel_rfl) rfl rfl ⟨p0, p1, p2, p3, p4, p5, p6, p7⟩ (fun hHeld => ?_);generalize W3.drew = W4 at *;refine pure_ (i := 0) (N := some 69) (v := ?_) (a' := ?_) (bm 11 1) rfl rfl (by kernel_rfl) (fun _ _ _ h => h) (Or.inl ⟨by rfl, ?_⟩) ?_ ?_;rotate_left;intro w';go_simp;(with_reducible rfl);rotate_left;simp only [Act.put, nA, nZ, nS, i64_w, i32_w];rfl;refine pure_ (i := 1) (N := some 70) (v := ?_) (a' := ?_) (bm 11 3) rfl rfl (by kernel_rfl) (fun _ _ _ h => h) (Or.inl ⟨by rfl, ?_⟩) ?_ ?_;rotate_left;intro w';go_simp;(with_reducible rfl);rotate_left;simp only [Act.put, nA, nZ, nS, i64_w, i32_w];rfl;refine pure_ (i := 2) (N := some 71) (v := ?_) (a' := ?_) (bm 11 7) rfl rfl (by kernel_rfl) (fun _ _ _ h => h) (Or.inl ⟨by rfl, ?_⟩) ?_ ?_;rotate_left;intro w';go_simp;(with_reducible rfl);rotate_left;simp only [Act.put, nA, nZ, nS, i64_w, i32_w];rfl;refine pure_ (i := 3) (N := some 72) (v := ?_) (a' := ?_) (bm 11 15) rfl rfl (by kernel_rfl) (fun _ _ _ h => h) (Or.inl ⟨by rfl, ?_⟩) ?_ ?_;rotate_left;intro w';go_simp;(with_reducible rfl);rotate_left;simp only [Act.put, nA, nZ, nS, i64_w, i32_w];rfl;refine pure_ (i := 5) (N := some 74) (v := ?_) (a' := ?_) (bm 11 47) rfl rfl (by kernel_rfl) (fun _ _ _ h => h) (Or.inl ⟨by rfl, ?_⟩) ?_ ?_;rotate_left;intro w';go_simp;(with_reducible rfl);rotate_left;simp only [Act.put, nA, nZ, nS, i64_w, i32_w];rfl;refine take_ (i := 6) (N := some 75) (v := ?_) (a' := ?_) (bm 11 111) rfl rfl (by kernel_rfl) (fun _ _ _ h => h) (Or.inl ⟨by rfl, ?_⟩) hHeld ?_ ?_;rotate_left;rintro w' ⟨s0, s1, s2, s3, s4, s5, s6, s7⟩;go_simp;(with_reducible rfl);rotate_left;simp only [Act.put, nA, nZ, nS, i64_w, i32_w];rfl;refine take_ (i := 7) (N := some 76) (v := ?_) (a' := ?_) (bm 11 239) rfl rfl (by kernel_rfl) (fun _ _ _ h => h) (Or.inl ⟨by rfl, ?_⟩) hHeld ?_ ?_;rotate_left;rintro w' ⟨s0, s1, s2, s3, s4, s5, s6, s7⟩;go_simp;(with_reducible rfl);rotate_left;simp only [Act.put, nA, nZ, nS, i64_w, i32_w];rfl;refine pure_ (i := 8) (N := some 77) (v := ?_) (a' := ?_) (bm 11 495) rfl rfl (by kernel_rfl) (fun _ _ _ h => h) (Or.inl ⟨by rfl, ?_⟩) ?_ ?_;rotate_left;intro w';go_simp;(with_reducible rfl);rotate_left;simp only [Act.put, nA, nZ, nS, i64_w, i32_w];rfl;refine one_ (i := 4) (N := some 73) (bm 11 511) rfl rfl (by kernel_rfl) (by decide) (fun K hK => ?_);refine goes_ Tryz.func85 (by kernel_rfl) rfl #[.slice (some ⟨g, 0, none⟩) s.length c, .int .i64 r, .int .i64 (Go.RowKit.wrap64 ((r : Int) + 1))] (by rfl) rfl rfl (by simp only [List.map_toArray, List.map_cons, List.map_nil]; rfl) ?_;with_reducible refine (HDEL.out _ HR4.out hn4).mono ?_
 rintro e w5 ⟨rfl, ho5, hg5⟩;refine ⟨_, rfl, ?_⟩;have HO5 := Hi ho5;have HG5 := Hi (grown_trans HG4.out hg5);have HB5 := Hi (below_of_grown HB4.out (Nat.le_refl _) hg5 (fun x hx => by injection hx with hx; have := HGN.out; omega));have q0 := cell_grown hg5 p0 (by intro e; injection e with e; exact HBG.out e);have q1 := cell_grown hg5 p1 (by intro e; injection e with e; exact H7G.out e);have q2 := cell_grown hg5 p2 (by intro e; injection e with e; exact H7G.out e);have q3 := cell_grown hg5 p3 (by intro e; injection e with e; exact H7G.out e);have q4 := cell_grown hg5 p4 (by intro e; injection e with e; exact H7G.out e);have q5 := cell_grown hg5 p5 (by intro e; injection e with e; exact H7G.out e);have q6 := cell_grown hg5 p6 (by intro e; injection e with e; exact H7G.out e);have q7 := cell_grown hg5 p7 (by intro e; injection e with e; exact H7G.out e);clear hg5 ho5;refine hK.out _ _ ⟨q0, q1, q2, q3, q4, q5, q6, q7⟩ (fun hHeld => ?_);clear hK K;refine norm_ (a' := ?_) ?_ ?_;rotate_left
 ·
  show Act.put _ (some 73) _ = _
  simp only [Act.put, nA, nZ, nS, i64_w, i32_w];rfl
 refine last_ (i := 9) (N := some 78) (bm 11 1023) rfl rfl (by kernel_rfl) (by decide) (fun K hK => ?_);refine goes_ Tryz.func51 (by kernel_rfl) rfl #[.slice (some ⟨g, 0, none⟩) (s.length - 1) c, .agg #[.int .i64 0, .string tp, .string ⟨#[]⟩, .int .i64 kx, .int .u32 mx, .int .u32 ux, .int .u32 gx, .int .i64 tx, .int .i64 ax, .string dx, .bool false]] (by rfl) rfl rfl (by simp only [List.map_toArray, List.map_cons, List.map_nil]; rfl) ?_;with_reducible refine (HDP.out w5 HO5.out HB5.out).mono ?_
 rintro e w6 ⟨v1, rfl, hp6⟩;refine ⟨_, rfl, ?_⟩;have HP6 := Hi hp6;clear hp6;refine hK.out _ _ ?_;clear hK K;refine norm_ (a' := ?_) ?_ ?_;rotate_left
 ·
  show Act.put _ (some 78) _ = _
  simp only [Act.put, nA, nZ, nS, i64_w, i32_w];rfl
 refine pure_ (i := 10) (N := some 4) (v := ?_) (a' := ?_) (bm 11 2047) rfl rfl (by kernel_rfl) (fun _ _ _ h => h) (Or.inl ⟨by rfl, ?_⟩) ?_ ?_;rotate_left;intro w';go_simp;(with_reducible rfl);rotate_left;simp only [Act.put, nA, nZ, nS, i64_w, i32_w];rfl;refine done_ (by kernel_rfl) ?_;go_wp2;go_ret;exact ⟨v1, rfl, RowPost.two (v := (.slice (some ⟨g, 0, none⟩) s.length c)) (v1 := .slice (some ⟨g, 0, none⟩) (s.length - 1) c) ⟨HO5.out, HG5.out, .inl rfl⟩ HP6.out⟩
theorem done_meta (W0 : World) (hg0 : Glob W0) (g c : Nat) (s : List It) (pa tp : ByteArray) (kd mo ui gi mt at_ : Int) (da : ByteArray) (su : Bool) (W : World) (hb0 : Below W0.heap.size W0 W) (h : itemK.R 77 W W0.heap.size (fun _ => True) (.slice (some ⟨g, 0, none⟩) s.length c) s) (hs : s.length ≤ 900000) (hss : ∀ x ∈ s, x.1.size < 4294967281) (hp : pa.size < 4294967281) (r : Nat) (hr : placeP s pa = r) (h0 : hereP s pa = true) (h1 : r < s.length) (px : ByteArray) (kx mx ux gx tx ax : Int) (dx : ByteArray) (hx : s[r] = (px, kx, mx, ux, gx, tx, ax, dx)) :
  Calls Tryz.prog 51 #[(.slice (some ⟨g, 0, none⟩) s.length c), .agg #[.int .i64 4, .string pa, .string tp, .int .i64 kd, .int .u32 mo, .int .u32 ui, .int .u32 gi, .int .i64 mt, .int .i64 at_, .string da, .bool su]] W fun e w' => ∃ v1, e = .returned v1 ∧ RowPost W0.heap.size W w' (.slice (some ⟨g, 0, none⟩) s.length c) v1 (s.set r (px, kx, mo, ui, gi, mt, at_, dx)) := by
 obtain ⟨A, c', he, hcap, hC⟩ := Kd.R_reads h;injection he with e1 e2 e3
 subst e1 e3;have hrI : (r : Int) < (s.length : Int) := by omega
 have hgl := Kd.R_lt h g rfl;have HS0 := Hi (show s = s.set r (px, kx, mx, ux, gx, tx, ax, dx) by rw [← hx, List.set_getElem_self]);clear hx;have hb1 := below_one W (.cells #[.int .i64 4, .string pa, .string tp, .int .i64 kd, .int .u32 mo, .int .u32 ui, .int .u32 gi, .int .i64 mt, .int .i64 at_, .string da, .bool su] 93);have HC := Hi (at_any s _ c pa _ (hg0.below (hb0.trans (hb1.mono hb0.size))) (Kd.C_below hC hb1) (by omega) hss hp);rw [h0, hr] at HC;have HB1 := Hi hb1;have HK1 := Hi (heap_new W (.cells #[.int .i64 4, .string pa, .string tp, .int .i64 kd, .int .u32 mo, .int .u32 ui, .int .u32 gi, .int .i64 mt, .int .i64 at_, .string da, .bool su] 93));have k1 : (W.alloc (.cells #[.int .i64 4, .string pa, .string tp, .int .i64 kd, .int .u32 mo, .int .u32 ui, .int .u32 gi, .int .i64 mt, .int .i64 at_, .string da, .bool su] 93)).cell? ⟨W.heap.size, 1, none⟩ = some (.string pa) := by rw [cell_of (heap_new W _)]; rfl
 have HR := Hi h;have HCC := Hi hC;have HB0 := Hi hb0;clear h hC hg0 hss hb1 hb0;clear h0 hr;go_enter Tryz.func51, Tryz.ntmps51
 go_wp2_with fail
 generalize W.alloc (.cells #[.int .i64 4, .string pa, .string tp, .int .i64 kd, .int .u32 mo, .int .u32 ui, .int .u32 gi, .int .i64 mt, .int .i64 at_, .string da, .bool su] 93) = W1 at *;obtain ⟨bb, hbb⟩ : ∃ bb, bb = W.heap.size := ⟨_, rfl⟩;rw [← hbb] at HK1 k1 ⊢;refine HC.out.mono ?_;rintro e W2 ⟨rfl, hb2⟩;have HB2 := Hi (below_next HB1.out hb2);have HK := Own.kp hb2 HK1.out;have HR2 := Hi (Kd.R_below HR.out HB2.out);clear hb2 k1 HC HB1 HK1;have HBG := Hi (show bb ≠ g by omega);clear hbb HCC;have HK0 : Hid (W2.drew.heap[bb]? = some (.cells #[.int .i64 4, .string pa, .string tp, .int .i64 kd, .int .u32 mo, .int .u32 ui, .int .u32 gi, .int .i64 mt, .int .i64 at_, .string da, .bool su] 93 (0, 0))) := Hi HK;have HR0 : Hid (itemK.R 77 W2.drew W0.heap.size (fun _ => True) (.slice (some ⟨g, 0, none⟩) s.length c) (s.set r (px, kx, mx, ux, gx, tx, ax, dx))) := by rw [← HS0.out]; exact Hi (Kd.R_below HR2.out (below_drew (Below.refl _ _)))
 have HG0 : Hid (W.grownBy W2.drew (some g)) := Hi (grown_of_below (below_drew HB2.out) _);have e2 := own_get (k := r) HR0.out (List.getElem?_set_self h1) 2 _ rfl;have z2 := own_fz HR0.out (r * 8 + 2);have m0_0 : W2.drew.cell? ⟨bb, 4, none⟩ = some (.int .u32 mo) := by rw [cell_of HK0.out]; rfl
 have m0_1 : W2.drew.cell? ⟨bb, 5, none⟩ = some (.int .u32 ui) := by rw [cell_of HK0.out]; rfl
 have m0_2 : W2.drew.cell? ⟨bb, 6, none⟩ = some (.int .u32 gi) := by rw [cell_of HK0.out]; rfl
 have m0_3 : W2.drew.cell? ⟨bb, 7, none⟩ = some (.int .i64 mt) := by rw [cell_of HK0.out]; rfl
 have m0_4 : W2.drew.cell? ⟨bb, 8, none⟩ = some (.int .i64 at_) := by rw [cell_of HK0.out]; rfl
 have k0 : W2.cell? ⟨bb, 0, none⟩ = some (.int .i64 4) := by rw [cell_of HK]; rfl
 have k1 : W2.cell? ⟨bb, 1, none⟩ = some (.string pa) := by rw [cell_of HK]; rfl
 clear HK;skip;go_wp2;refine start_ (n := 35) (S := fun w' => w'.cell? ⟨bb, 4, none⟩ = some (.int .u32 mo) ∧ w'.cell? ⟨bb, 5, none⟩ = some (.int .u32 ui) ∧ w'.cell? ⟨bb, 6, none⟩ = some (.int .u32 gi) ∧ w'.cell? ⟨bb, 7, none⟩ = some (.int .i64 mt) ∧ w'.cell? ⟨bb, 8, none⟩ = some (.int .i64 at_)) (ds := []) (bm 35 0) (by kernel_rfl) rfl rfl ⟨m0_0, m0_1, m0_2, m0_3, m0_4⟩ (fun hHeld => ?_);generalize W2.drew = w4 at *;refine pure_ (i := 0) (N := some 86) (v := ?_) (a' := ?_) (bm 35 1) rfl rfl (by kernel_rfl) (fun _ _ _ h => h) (Or.inl ⟨by rfl, ?_⟩) ?_ ?_;rotate_left;intro w';go_simp;(with_reducible rfl);rotate_left;simp only [Act.put, nA, nZ, nS, i64_w, i32_w];rfl;refine pure_ (i := 1) (N := some 87) (v := ?_) (a' := ?_) (bm 35 3) rfl rfl (by kernel_rfl) (fun _ _ _ h => h) (Or.inl ⟨by rfl, ?_⟩) ?_ ?_;rotate_left;intro w';go_simp;(with_reducible rfl);rotate_left;simp only [Act.put, nA, nZ, nS, i64_w, i32_w];rfl;refine pure_ (i := 2) (N := some 88) (v := ?_) (a' := ?_) (bm 35 7) rfl rfl (by kernel_rfl) (fun _ _ _ h => h) (Or.inl ⟨by rfl, ?_⟩) ?_ ?_;rotate_left;intro w';go_simp;(with_reducible rfl);rotate_left;simp only [Act.put, nA, nZ, nS, i64_w, i32_w];rfl;refine pure_ (i := 3) (N := some 89) (v := ?_) (a' := ?_) (bm 35 15) rfl rfl (by kernel_rfl) (fun _ _ _ h => h) (Or.inl ⟨by rfl, ?_⟩) ?_ ?_;rotate_left;intro w';go_simp;(with_reducible rfl);rotate_left;simp only [Act.put, nA, nZ, nS, i64_w, i32_w];rfl;refine pure_ (i := 4) (N := some 90) (v := ?_) (a' := ?_) (bm 35 31) rfl rfl (by kernel_rfl) (fun _ _ _ h => h) (Or.inl ⟨by rfl, ?_⟩) ?_ ?_;rotate_left;intro w';go_simp;(with_reducible rfl);rotate_left;simp only [Act.put, nA, nZ, nS, i64_w, i32_w];rfl;refine pure_ (i := 5) (N := some 91) (v := ?_) (a' := ?_) (bm 35 63) rfl rfl (by kernel_rfl) (fun _ _ _ h => h) (Or.inl ⟨by rfl, ?_⟩) ?_ ?_;rotate_left;intro w';go_simp;(with_reducible rfl);rotate_left;simp only [Act.put, nA, nZ, nS, i64_w, i32_w];rfl;refine pure_ (i := 6) (N := some 92) (v := ?_) (a' := ?_) (bm 35 127) rfl rfl (by kernel_rfl) (fun _ _ _ h => h) (Or.inl ⟨by rfl, ?_⟩) ?_ ?_;rotate_left;intro w';go_simp;(with_reducible rfl);rotate_left;simp only [Act.put, nA, nZ, nS, i64_w, i32_w];rfl;refine pure_ (i := 8) (N := some 94) (v := ?_) (a' := ?_) (bm 35 383) rfl rfl (by kernel_rfl) (fun _ _ _ h => h) (Or.inl ⟨by rfl, ?_⟩) ?_ ?_;rotate_left;intro w';go_simp;(with_reducible rfl);rotate_left;simp only [Act.put, nA, nZ, nS, i64_w, i32_w];rfl;refine pure_ (i := 9) (N := some 95) (v := ?_) (a' := ?_) (bm 35 895) rfl rfl (by kernel_rfl) (fun _ _ _ h => h) (Or.inl ⟨by rfl, ?_⟩) ?_ ?_;rotate_left;intro w';go_simp;(with_reducible rfl);rotate_left;simp only [Act.put, nA, nZ, nS, i64_w, i32_w];rfl;refine pure_ (i := 11) (N := some 97) (v := ?_) (a' := ?_) (bm 35 2943) rfl rfl (by kernel_rfl) (fun _ _ _ h => h) (Or.inl ⟨by rfl, ?_⟩) ?_ ?_;rotate_left;intro w';go_simp;(with_reducible rfl);rotate_left;simp only [Act.put, nA, nZ, nS, i64_w, i32_w];rfl;refine pure_ (i := 12) (N := some 98) (v := ?_) (a' := ?_) (bm 35 7039) rfl rfl (by kernel_rfl) (fun _ _ _ h => h) (Or.inl ⟨by rfl, ?_⟩) ?_ ?_
 rotate_left;intro w';go_simp;(with_reducible rfl);rotate_left;simp only [Act.put, nA, nZ, nS, i64_w, i32_w];rfl;refine pure_ (i := 14) (N := some 100) (v := ?_) (a' := ?_) (bm 35 23423) rfl rfl (by kernel_rfl) (fun _ _ _ h => h) (Or.inl ⟨by rfl, ?_⟩) ?_ ?_;rotate_left;intro w';go_simp;(with_reducible rfl);rotate_left;simp only [Act.put, nA, nZ, nS, i64_w, i32_w];rfl;refine pure_ (i := 15) (N := some 101) (v := ?_) (a' := ?_) (bm 35 56191) rfl rfl (by kernel_rfl) (fun _ _ _ h => h) (Or.inl ⟨by rfl, ?_⟩) ?_ ?_;rotate_left;intro w';go_simp;(with_reducible rfl);rotate_left;simp only [Act.put, nA, nZ, nS, i64_w, i32_w];rfl;refine pure_ (i := 17) (N := some 103) (v := ?_) (a' := ?_) (bm 35 187263) rfl rfl (by kernel_rfl) (fun _ _ _ h => h) (Or.inl ⟨by rfl, ?_⟩) ?_ ?_;rotate_left;intro w';go_simp;(with_reducible rfl);rotate_left;simp only [Act.put, nA, nZ, nS, i64_w, i32_w];rfl;refine pure_ (i := 18) (N := some 104) (v := ?_) (a' := ?_) (bm 35 449407) rfl rfl (by kernel_rfl) (fun _ _ _ h => h) (Or.inl ⟨by rfl, ?_⟩) ?_ ?_;rotate_left;intro w';go_simp;(with_reducible rfl);rotate_left;simp only [Act.put, nA, nZ, nS, i64_w, i32_w];rfl;refine take_ (i := 7) (N := some 93) (v := ?_) (a' := ?_) (bm 35 449535) rfl rfl (by kernel_rfl) (fun _ _ _ h => h) (Or.inl ⟨by rfl, ?_⟩) hHeld ?_ ?_;rotate_left;rintro w' ⟨s0, s1, s2, s3, s4⟩;go_simp;(with_reducible rfl);rotate_left;simp only [Act.put, nA, nZ, nS, i64_w, i32_w];rfl;refine pure_ (i := 20) (N := some 106) (v := ?_) (a' := ?_) (bm 35 1498111) rfl rfl (by kernel_rfl) (fun _ _ _ h => h) (Or.inl ⟨by rfl, ?_⟩) ?_ ?_;rotate_left;intro w';go_simp;(with_reducible rfl);rotate_left;simp only [Act.put, nA, nZ, nS, i64_w, i32_w];rfl;refine pure_ (i := 21) (N := some 107) (v := ?_) (a' := ?_) (bm 35 3595263) rfl rfl (by kernel_rfl) (fun _ _ _ h => h) (Or.inl ⟨by rfl, ?_⟩) ?_ ?_;rotate_left;intro w';go_simp;(with_reducible rfl);rotate_left;simp only [Act.put, nA, nZ, nS, i64_w, i32_w];rfl;refine take_ (i := 10) (N := some 96) (v := ?_) (a' := ?_) (bm 35 3596287) rfl rfl (by kernel_rfl) (fun _ _ _ h => h) (Or.inl ⟨by rfl, ?_⟩) hHeld ?_ ?_;rotate_left;rintro w' ⟨s0, s1, s2, s3, s4⟩;go_simp;(with_reducible rfl);rotate_left;simp only [Act.put, nA, nZ, nS, i64_w, i32_w];rfl;refine take_ (i := 13) (N := some 99) (v := ?_) (a' := ?_) (bm 35 3604479) rfl rfl (by kernel_rfl) (fun _ _ _ h => h) (Or.inl ⟨by rfl, ?_⟩) hHeld ?_ ?_;rotate_left;rintro w' ⟨s0, s1, s2, s3, s4⟩;go_simp;(with_reducible rfl);rotate_left;simp only [Act.put, nA, nZ, nS, i64_w, i32_w];rfl;refine take_ (i := 16) (N := some 102) (v := ?_) (a' := ?_) (bm 35 3670015) rfl rfl (by kernel_rfl) (fun _ _ _ h => h) (Or.inl ⟨by rfl, ?_⟩) hHeld ?_ ?_;rotate_left;rintro w' ⟨s0, s1, s2, s3, s4⟩;go_simp;(with_reducible rfl);rotate_left;simp only [Act.put, nA, nZ, nS, i64_w, i32_w];rfl;refine take_ (i := 19) (N := some 105) (v := ?_) (a' := ?_) (bm 35 4194303) rfl rfl (by kernel_rfl) (fun _ _ _ h => h) (Or.inl ⟨by rfl, ?_⟩) hHeld ?_ ?_;rotate_left;rintro w' ⟨s0, s1, s2, s3, s4⟩;go_simp;(with_reducible rfl);rotate_left;simp only [Act.put, nA, nZ, nS, i64_w, i32_w];rfl
 refine one_ (i := 22) (N := none) (bm 35 8388607) rfl rfl (by kernel_rfl) (by decide) (fun K hK => ?_);refine skip_ (w1 := ?_) (by rfl) rfl ?_ ?_;rotate_left
 ·
  go_simp;rfl
 have hs := own_put2 (j := 2) (u := .int .u32 mo) (y := (px, kx, mo, ux, gx, tx, ax, dx)) HR0.out h1 (by decide) rfl;have HR1 := Hi hs.1;have HG1 := Hi (grown_trans HG0.out hs.2);have HK1 := Hi (blk_far HK0.out (p := ⟨g, r * 8 + 2, none⟩) HBG.out (.int .u32 mo));clear hs;generalize w4.setCell ⟨g, r * 8 + 2, none⟩ (.int .u32 mo) = w5 at *;have e3 := own_get (k := r) HR1.out (List.getElem?_set_self h1) 3 _ rfl;have z3 := own_fz HR1.out (r * 8 + 3);have m1_0 : w5.cell? ⟨bb, 4, none⟩ = some (.int .u32 mo) := by rw [cell_of HK1.out]; rfl
 have m1_1 : w5.cell? ⟨bb, 5, none⟩ = some (.int .u32 ui) := by rw [cell_of HK1.out]; rfl
 have m1_2 : w5.cell? ⟨bb, 6, none⟩ = some (.int .u32 gi) := by rw [cell_of HK1.out]; rfl
 have m1_3 : w5.cell? ⟨bb, 7, none⟩ = some (.int .i64 mt) := by rw [cell_of HK1.out]; rfl
 have m1_4 : w5.cell? ⟨bb, 8, none⟩ = some (.int .i64 at_) := by rw [cell_of HK1.out]; rfl
 refine hK.out _ _ ⟨m1_0, m1_1, m1_2, m1_3, m1_4⟩ (fun hHeld => ?_);clear hK K;refine pure_ (i := 23) (N := some 108) (v := ?_) (a' := ?_) (bm 35 16777215) rfl rfl (by kernel_rfl) (fun _ _ _ h => h) (Or.inl ⟨by rfl, ?_⟩) ?_ ?_;rotate_left;intro w';go_simp;(with_reducible rfl);rotate_left;simp only [Act.put, nA, nZ, nS, i64_w, i32_w];rfl;refine pure_ (i := 24) (N := some 109) (v := ?_) (a' := ?_) (bm 35 33554431) rfl rfl (by kernel_rfl) (fun _ _ _ h => h) (Or.inl ⟨by rfl, ?_⟩) ?_ ?_;rotate_left;intro w';go_simp;(with_reducible rfl);rotate_left;simp only [Act.put, nA, nZ, nS, i64_w, i32_w];rfl;refine one_ (i := 25) (N := none) (bm 35 67108863) rfl rfl (by kernel_rfl) (by decide) (fun K hK => ?_);refine skip_ (w1 := ?_) (by rfl) rfl ?_ ?_;rotate_left
 ·
  go_simp;rfl
 have hs := own_put2 (j := 3) (u := .int .u32 ui) (y := (px, kx, mo, ui, gx, tx, ax, dx)) HR1.out h1 (by decide) rfl;have HR2 := Hi hs.1;have HG2 := Hi (grown_trans HG1.out hs.2);have HK2 := Hi (blk_far HK1.out (p := ⟨g, r * 8 + 3, none⟩) HBG.out (.int .u32 ui));clear hs;generalize w5.setCell ⟨g, r * 8 + 3, none⟩ (.int .u32 ui) = w6 at *;have e4 := own_get (k := r) HR2.out (List.getElem?_set_self h1) 4 _ rfl;have z4 := own_fz HR2.out (r * 8 + 4);have m2_0 : w6.cell? ⟨bb, 4, none⟩ = some (.int .u32 mo) := by rw [cell_of HK2.out]; rfl
 have m2_1 : w6.cell? ⟨bb, 5, none⟩ = some (.int .u32 ui) := by rw [cell_of HK2.out]; rfl
 have m2_2 : w6.cell? ⟨bb, 6, none⟩ = some (.int .u32 gi) := by rw [cell_of HK2.out]; rfl
 have m2_3 : w6.cell? ⟨bb, 7, none⟩ = some (.int .i64 mt) := by rw [cell_of HK2.out]; rfl
 have m2_4 : w6.cell? ⟨bb, 8, none⟩ = some (.int .i64 at_) := by rw [cell_of HK2.out]; rfl
 refine hK.out _ _ ⟨m2_0, m2_1, m2_2, m2_3, m2_4⟩ (fun hHeld => ?_);clear hK K;refine pure_ (i := 26) (N := some 110) (v := ?_) (a' := ?_) (bm 35 134217727) rfl rfl (by kernel_rfl) (fun _ _ _ h => h) (Or.inl ⟨by rfl, ?_⟩) ?_ ?_;rotate_left;intro w';go_simp;(with_reducible rfl);rotate_left;simp only [Act.put, nA, nZ, nS, i64_w, i32_w];rfl;refine pure_ (i := 27) (N := some 111) (v := ?_) (a' := ?_) (bm 35 268435455) rfl rfl (by kernel_rfl) (fun _ _ _ h => h) (Or.inl ⟨by rfl, ?_⟩) ?_ ?_;rotate_left;intro w';go_simp;(with_reducible rfl);rotate_left;simp only [Act.put, nA, nZ, nS, i64_w, i32_w];rfl;refine one_ (i := 28) (N := none) (bm 35 536870911) rfl rfl (by kernel_rfl) (by decide) (fun K hK => ?_);refine skip_ (w1 := ?_) (by rfl) rfl ?_ ?_;rotate_left
 ·
  go_simp;rfl
 have hs := own_put2 (j := 4) (u := .int .u32 gi) (y := (px, kx, mo, ui, gi, tx, ax, dx)) HR2.out h1 (by decide) rfl;have HR3 := Hi hs.1;have HG3 := Hi (grown_trans HG2.out hs.2);have HK3 := Hi (blk_far HK2.out (p := ⟨g, r * 8 + 4, none⟩) HBG.out (.int .u32 gi));clear hs;generalize w6.setCell ⟨g, r * 8 + 4, none⟩ (.int .u32 gi) = w7 at *;have e5 := own_get (k := r) HR3.out (List.getElem?_set_self h1) 5 _ rfl;have z5 := own_fz HR3.out (r * 8 + 5);have m3_0 : w7.cell? ⟨bb, 4, none⟩ = some (.int .u32 mo) := by rw [cell_of HK3.out]; rfl
 have m3_1 : w7.cell? ⟨bb, 5, none⟩ = some (.int .u32 ui) := by rw [cell_of HK3.out]; rfl
 have m3_2 : w7.cell? ⟨bb, 6, none⟩ = some (.int .u32 gi) := by rw [cell_of HK3.out]; rfl
 have m3_3 : w7.cell? ⟨bb, 7, none⟩ = some (.int .i64 mt) := by rw [cell_of HK3.out]; rfl
 have m3_4 : w7.cell? ⟨bb, 8, none⟩ = some (.int .i64 at_) := by rw [cell_of HK3.out]; rfl
 refine hK.out _ _ ⟨m3_0, m3_1, m3_2, m3_3, m3_4⟩ (fun hHeld => ?_);clear hK K;refine pure_ (i := 29) (N := some 112) (v := ?_) (a' := ?_) (bm 35 1073741823) rfl rfl (by kernel_rfl) (fun _ _ _ h => h) (Or.inl ⟨by rfl, ?_⟩) ?_ ?_;rotate_left;intro w';go_simp;(with_reducible rfl);rotate_left;simp only [Act.put, nA, nZ, nS, i64_w, i32_w];rfl;refine pure_ (i := 30) (N := some 113) (v := ?_) (a' := ?_) (bm 35 2147483647) rfl rfl (by kernel_rfl) (fun _ _ _ h => h) (Or.inl ⟨by rfl, ?_⟩) ?_ ?_;rotate_left;intro w';go_simp;(with_reducible rfl);rotate_left;simp only [Act.put, nA, nZ, nS, i64_w, i32_w];rfl;refine one_ (i := 31) (N := none) (bm 35 4294967295) rfl rfl (by kernel_rfl) (by decide) (fun K hK => ?_);refine skip_ (w1 := ?_) (by rfl) rfl ?_ ?_;rotate_left
 ·
  go_simp;rfl
 have hs := own_put2 (j := 5) (u := .int .i64 mt) (y := (px, kx, mo, ui, gi, mt, ax, dx)) HR3.out h1 (by decide) rfl;have HR4 := Hi hs.1;have HG4 := Hi (grown_trans HG3.out hs.2);have HK4 := Hi (blk_far HK3.out (p := ⟨g, r * 8 + 5, none⟩) HBG.out (.int .i64 mt));clear hs;generalize w7.setCell ⟨g, r * 8 + 5, none⟩ (.int .i64 mt) = w8 at *;have e6 := own_get (k := r) HR4.out (List.getElem?_set_self h1) 6 _ rfl;have z6 := own_fz HR4.out (r * 8 + 6);have m4_0 : w8.cell? ⟨bb, 4, none⟩ = some (.int .u32 mo) := by rw [cell_of HK4.out]; rfl
 have m4_1 : w8.cell? ⟨bb, 5, none⟩ = some (.int .u32 ui) := by rw [cell_of HK4.out]; rfl
 have m4_2 : w8.cell? ⟨bb, 6, none⟩ = some (.int .u32 gi) := by rw [cell_of HK4.out]; rfl
 have m4_3 : w8.cell? ⟨bb, 7, none⟩ = some (.int .i64 mt) := by rw [cell_of HK4.out]; rfl
 have m4_4 : w8.cell? ⟨bb, 8, none⟩ = some (.int .i64 at_) := by rw [cell_of HK4.out]; rfl
 refine hK.out _ _ ⟨m4_0, m4_1, m4_2, m4_3, m4_4⟩ (fun hHeld => ?_);clear hK K;refine pure_ (i := 32) (N := some 114) (v := ?_) (a' := ?_) (bm 35 8589934591) rfl rfl (by kernel_rfl) (fun _ _ _ h => h) (Or.inl ⟨by rfl, ?_⟩) ?_ ?_;rotate_left;intro w';go_simp;(with_reducible rfl);rotate_left;simp only [Act.put, nA, nZ, nS, i64_w, i32_w];rfl;refine pure_ (i := 33) (N := some 115) (v := ?_) (a' := ?_) (bm 35 17179869183) rfl rfl (by kernel_rfl) (fun _ _ _ h => h) (Or.inl ⟨by rfl, ?_⟩) ?_ ?_;rotate_left;intro w';go_simp;(with_reducible rfl);rotate_left;simp only [Act.put, nA, nZ, nS, i64_w, i32_w];rfl;refine one_ (i := 34) (N := none) (bm 35 34359738367) rfl rfl (by kernel_rfl) (by decide) (fun K hK => ?_);refine skip_ (w1 := ?_) (by rfl) rfl ?_ ?_;rotate_left
 ·
  go_simp;rfl
 have hs := own_put2 (j := 6) (u := .int .i64 at_) (y := (px, kx, mo, ui, gi, mt, at_, dx)) HR4.out h1 (by decide) rfl;have HR5 := Hi hs.1;have HG5 := Hi (grown_trans HG4.out hs.2);have HK5 := Hi (blk_far HK4.out (p := ⟨g, r * 8 + 6, none⟩) HBG.out (.int .i64 at_));clear hs;generalize w8.setCell ⟨g, r * 8 + 6, none⟩ (.int .i64 at_) = w9 at *;have m5_0 : w9.cell? ⟨bb, 4, none⟩ = some (.int .u32 mo) := by rw [cell_of HK5.out]; rfl
 have m5_1 : w9.cell? ⟨bb, 5, none⟩ = some (.int .u32 ui) := by rw [cell_of HK5.out]; rfl
 have m5_2 : w9.cell? ⟨bb, 6, none⟩ = some (.int .u32 gi) := by rw [cell_of HK5.out]; rfl
 have m5_3 : w9.cell? ⟨bb, 7, none⟩ = some (.int .i64 mt) := by rw [cell_of HK5.out]; rfl
 have m5_4 : w9.cell? ⟨bb, 8, none⟩ = some (.int .i64 at_) := by rw [cell_of HK5.out]; rfl
 refine hK.out _ _ ⟨m5_0, m5_1, m5_2, m5_3, m5_4⟩ (fun hHeld => ?_);clear hK K;refine done_ (by kernel_rfl) ?_;go_wp2;go_ret;exact ⟨_, rfl, HR5.out, HG5.out, .inl rfl⟩
end Go.Proofs.YtibmfjacfbpfgaaGreatDoor.DDone
namespace Go.Proofs.YtibmfjacfbpfgaaGreatDoor.DWait
open Go.RowKit YtibmfjacfbpfgaaGreatDoorW PrintWords PrintLast PrintMore NameLaw NameCmp NameWalk YtibmfjacfbpfgaaGreatDoor.Item Own Raw TreeLaw SortSwap SortIns TreeDel FillLaw RealLaw DoneLaw KeepLaw OpLaw OpKeep DAt StepA DSmall DRows DDone
section
variable {W W1 : World} {n b : Nat} {vl vs vq v1 : Value}
theorem still_shows (b : Nat) (vl vq : Value) {s1 : List It} (hp : RowPost n W W1 vs v1 s1) : Still W W1 (Owns b vl vs vq) (Owns b vl v1 vq) :=
 Still.grown hp.2.1 (fun k e => .inr (.inr (.inl e))) (fun k hk => by
  rcases hk with e | e | e | e
  ·
   exact .inl (.inl e)
  ·
   exact .inl (.inr (.inl e))
  ·
   rcases hp.2.2 with o | ⟨g, o, hg⟩
   ·
    exact .inl (.inr (.inr (.inl (o ▸ e))))
   rw [o] at e; injection e with e; exact .inr (e ▸ hg)
  exact .inl (.inr (.inr (.inr e))))
theorem still_waits (b : Nat) (vl vs : Value) (hg : W.grownBy W1 vq.ownBlock) (ha : v1.ownBlock = vq.ownBlock ∨ ∃ k, v1.ownBlock = some k ∧ W.heap.size ≤ k) : Still W W1 (Owns b vl vs vq) (Owns b vl vs v1) :=
 Still.grown hg (fun k e => .inr (.inr (.inr e))) (fun k hk => by
  rcases hk with e | e | e | e
  ·
   exact .inl (.inl e)
  ·
   exact .inl (.inr (.inl e))
  ·
   exact .inl (.inr (.inr (.inl e)))
  rcases ha with o | ⟨g, o, hg⟩
  ·
   exact .inl (.inr (.inr (.inr (o ▸ e))))
  rw [o] at e; injection e with e; exact .inr (e ▸ hg))
theorem still_own (vl vs vq : Value) (hg : W.grownBy W1 (some b)) : Still W W1 (Owns b vl vs vq) (Owns b vl vs vq) := Still.grown hg (fun k e => .inl (by injection e with e; exact e.symm)) (fun k h => .inl h)
theorem still_set (W : World) (b j : Nat) (u vl vs vq : Value) : Still W (W.setCell ⟨b, j, none⟩ u) (Owns b vl vs vq) (Owns b vl vs vq) := still_own vl vs vq (set_grown W b j u)
end
theorem put_set {s : List It} (hs : Strict s) {y : It} (h : hereP s y.1 = true) : putP s y = s.set (placeP s y.1) y := by
 have e := put_here hs y;rw [if_pos h] at e;rw [e, List.set_eq_take_append_cons_drop, if_pos (here_iff.1 h).1]
theorem wo_wo (s : List It) (p : ByteArray) : woP (woP s p) p = woP s p := by
 unfold woP;rw [List.filter_filter]
 congr 1
 funext x
 cases isAt p x <;> rfl
theorem put_wo (s : List It) (x : It) : putP (woP s x.1) x = putP s x := by
 unfold putP;rw [wo_wo]
theorem done_put (W0 : World) (hg0 : Glob W0) (v : Value) (s : List It) (pa tp : ByteArray) (kd mo ui gi mt at_ : Int) (da : ByteArray) (su : Bool) (W : World) (hb0 : Below W0.heap.size W0 W) (h : itemK.R 77 W W0.heap.size (fun _ => True) v s) (hs : s.length ≤ 900000) (hss : ∀ x ∈ s, x.1.size < 4294967281) (hst : Strict s) (hp : pa.size < 4294967281) :
  Calls Tryz.prog 51 #[v, .agg #[.int .i64 0, .string pa, .string tp, .int .i64 kd, .int .u32 mo, .int .u32 ui, .int .u32 gi, .int .i64 mt, .int .i64 at_, .string da, .bool su]] W fun e w' => ∃ v1, e = .returned v1 ∧ RowPost W0.heap.size W w' v v1 (putP s (pa, (kd, mo, ui, gi, mt, at_, da))) := by
 have e := put_here hst (pa, (kd, mo, ui, gi, mt, at_, da))
 by_cases hh : hereP s pa = true
 ·
  have hr := (here_iff.1 hh).1;obtain ⟨A, c, rfl⟩ := Kd.R_slice h;obtain ⟨g, rfl, _⟩ := own_form h (by omega);rw [if_pos hh] at e;rw [e];exact done_old W0 hg0 g c s pa tp kd mo ui gi mt at_ da su W hb0 h hs hss hp (placeP s pa) rfl hh hr
 rw [if_neg hh] at e;rw [e];exact done_new W0 hg0 v (placeP s pa) s pa tp kd mo ui gi mt at_ da su W hb0 h hs hss hp (by simpa using hh) rfl (place_go s pa).2
theorem done_none {s : List It} (hs : Strict s) {c : Chg} (hc : c.1 ≠ 0) (h : ¬ hereP s c.2.1 = true) : doneP s c = s := by
 unfold doneP;rw [if_neg hc, here_find hs, dif_neg h]
theorem done_any (W0 : World) (hg0 : Glob W0) (v : Value) (s : List It) (pa tp : ByteArray) (kd mo ui gi mt at_ : Int) (da : ByteArray) (su : Bool) (W : World) (hb0 : Below W0.heap.size W0 W) (h : itemK.R 77 W W0.heap.size (fun _ => True) v s) (hs : s.length ≤ 900000) (hss : ∀ x ∈ s, x.1.size < 4294967281) (hst : Strict s) (hp : pa.size < 4294967281) (hp2 : tp.size < 4294967281) (k : Int) (hk : k = 0 ∨ k = 1 ∨ k = 2 ∨ k = 3 ∨ k = 4) :
  Calls Tryz.prog 51 #[v, .agg #[.int .i64 k, .string pa, .string tp, .int .i64 kd, .int .u32 mo, .int .u32 ui, .int .u32 gi, .int .i64 mt, .int .i64 at_, .string da, .bool su]] W fun e w' => ∃ v1, e = .returned v1 ∧ RowPost W0.heap.size W w' v v1 (doneP s (k, pa, tp, (kd, mo, ui, gi, mt, at_, da), su)) := by
 have hno : ¬ hereP s pa = true → k ≠ 0 → doneP s (k, pa, tp, (kd, mo, ui, gi, mt, at_, da), su) = s := fun h1 h2 => done_none hst h2 h1
 rcases hk with rfl | hk
 ·
  exact done_put W0 hg0 v s pa tp kd mo ui gi mt at_ da su W hb0 h hs hss hst hp
 by_cases hh : hereP s pa = true
 ·
  have hr := (here_iff.1 hh).1;obtain ⟨hr', hpx⟩ := here_iff.1 hh;have hf := here_find hst pa;rw [dif_pos hh] at hf;obtain ⟨A, c, rfl⟩ := Kd.R_slice h;obtain ⟨g, rfl, _⟩ := own_form h (by omega);obtain ⟨px, kx, mx, ux, gx, tx, ax, dx, hx⟩ : ∃ px kx mx ux gx tx ax dx, s[placeP s pa] = (px, kx, mx, ux, gx, tx, ax, dx) := ⟨_, _, _, _, _, _, _, _, rfl⟩;rw [hx] at hpx;have hpx : px = pa := hpx;rw [hx] at hf
  rcases hk with rfl | rfl | rfl | rfl
  ·
   have e : doneP s (1, pa, tp, (kd, mo, ui, gi, mt, at_, da), su) = s.set (placeP s pa) (px, kx, mx, ux, gx, tx, ax, da) := by
    unfold doneP;simp only [hf];rw [if_neg (by decide), if_pos trivial];have := put_set hst (y := (px, kx, mx, ux, gx, tx, ax, da)) (by rw [hpx]; exact hh);rw [this, hpx]
   rw [e];exact done_fill W0 hg0 g c s pa tp kd mo ui gi mt at_ da su W hb0 h hs hss hp (placeP s pa) rfl hh hr _ (by rw [hx]; rfl)
  ·
   have e : doneP s (2, pa, tp, (kd, mo, ui, gi, mt, at_, da), su) = s.eraseIdx (placeP s pa) := by
    unfold doneP;simp only [hf];rw [if_neg (by decide), if_neg (by decide), if_pos trivial, wo_here hst hh, List.eraseIdx_eq_take_drop_succ]
   rw [e];exact done_gone W0 hg0 g c s pa tp kd mo ui gi mt at_ da su W hb0 h hs hss hp (placeP s pa) rfl hh hr
  ·
   have hwe : woP s pa = s.eraseIdx (placeP s pa) := by rw [wo_here hst hh, List.eraseIdx_eq_take_drop_succ]
   have e : doneP s (3, pa, tp, (kd, mo, ui, gi, mt, at_, da), su) = putP (s.eraseIdx (placeP s pa)) (tp, kx, mx, ux, gx, tx, ax, dx) := by
    unfold doneP;simp only [hf];rw [if_neg (by decide), if_neg (by decide), if_neg (by decide), if_pos trivial, hwe]
   rw [e]
   by_cases htp : pa = tp
   ·
    subst htp
    have e2 : putP (s.eraseIdx (placeP s pa)) (pa, kx, mx, ux, gx, tx, ax, dx) = s := by
     rw [← hwe];have := put_wo s (pa, kx, mx, ux, gx, tx, ax, dx);rw [this, put_set hst (y := (pa, kx, mx, ux, gx, tx, ax, dx)) hh];have hx2 : s[placeP s pa] = (pa, kx, mx, ux, gx, tx, ax, dx) := by rw [hx, hpx]
     exact (congrArg (s.set _) hx2.symm).trans (List.set_getElem_self _)
    rw [e2];exact done_same W0 hg0 _ s pa pa kd mo ui gi mt at_ da su W hb0 h hs hss hp hh rfl
   refine done_move W0 hg0 g c s pa tp kd mo ui gi mt at_ da su W hb0 h hs hss hp (placeP s pa) rfl hh hr (by rw [toList_inj]; exact decide_eq_false htp) px kx mx ux gx tx ax dx hx _ (fun w5 h5 hb5 => ?_)
   exact done_put W0 hg0 _ (s.eraseIdx (placeP s pa)) tp ⟨#[]⟩ kx mx ux gx tx ax dx false w5 hb5 h5 (by rw [List.length_eraseIdx]; split <;> omega) (fun x hx => hss x (List.mem_of_mem_eraseIdx hx)) (by rw [← hwe]; exact strict_wo hst pa) hp2
  have e : doneP s (4, pa, tp, (kd, mo, ui, gi, mt, at_, da), su) = s.set (placeP s pa) (px, kx, mo, ui, gi, mt, at_, dx) := by
   unfold doneP;simp only [hf];rw [if_neg (by decide), if_neg (by decide), if_neg (by decide), if_neg (by decide)];have := put_set hst (y := (px, kx, mo, ui, gi, mt, at_, dx)) (by rw [hpx]; exact hh);rw [this, hpx]
  rw [e];exact done_meta W0 hg0 g c s pa tp kd mo ui gi mt at_ da su W hb0 h hs hss hp (placeP s pa) rfl hh hr px kx mx ux gx tx ax dx hx
 rw [hno hh (by rcases hk with rfl | rfl | rfl | rfl <;> decide)]
 have hf : hereP s pa = false := by simpa using hh
 rcases hk with rfl | rfl | rfl | rfl
 ·
  exact done_miss W0 hg0 v 1 s pa tp kd mo ui gi mt at_ da su W hb0 h hs hss hp (by decide) hf
 ·
  exact done_miss W0 hg0 v 2 s pa tp kd mo ui gi mt at_ da su W hb0 h hs hss hp (by decide) hf
 ·
  exact done_miss W0 hg0 v 3 s pa tp kd mo ui gi mt at_ da su W hb0 h hs hss hp (by decide) hf
 exact done_miss W0 hg0 v 4 s pa tp kd mo ui gi mt at_ da su W hb0 h hs hss hp (by decide) hf
theorem wait_any (W0 : World) (b : Nat) (vl vs vq : Value) (l s s1 : List It) (q : List Chg) (lim fu fa st : Int) (off : Bool) (kk : Int) (pa tp : ByteArray) (kd mo ui gi mt at_ : Int) (da : ByteArray) (su : Bool) (W : World) (hb0 : Below W0.heap.size W0 W)
  (h : DAt W W0.heap.size b vl vs vq l s q lim fu fa st off) (hd : ∀ W', Below W0.heap.size W0 W' → itemK.R 77 W' W0.heap.size (fun _ => True) vs s → Calls Tryz.prog 51 #[vs, .agg #[.int .i64 kk, .string pa, .string tp, .int .i64 kd, .int .u32 mo, .int .u32 ui, .int .u32 gi, .int .i64 mt, .int .i64 at_, .string da, .bool su]] W' fun e w' => ∃ v1, e = .returned v1 ∧ RowPost W0.heap.size W' w' vs v1 s1)
  (hfu : fu ≤ 9223372036854775807) (hst : 0 ≤ st) (hst2 : st < 1000000) (hq : q.length ≤ 1000000) :
  Calls Tryz.prog 61 #[.pointer (some ⟨b, 0, none⟩), .agg #[.int .i64 kk, .string pa, .string tp, .int .i64 kd, .int .u32 mo, .int .u32 ui, .int .u32 gi, .int .i64 mt, .int .i64 at_, .string da, .bool su]] W fun e w' => e = .returned (.int .i64 0) ∧ (∃ vs1 vq1, DAt w' W0.heap.size b vl vs1 vq1 l s1 (q ++ [(kk, pa, tp, (kd, mo, ui, gi, mt, at_, da), su)]) lim (if 0 < fu then fu - 1 else fu) fa (st + 1) off ∧ Still W w' (Owns b vl vs vq) (Owns b vl vs1 vq1)) ∧ Below W0.heap.size W0 w' := by
 obtain ⟨fu1, hfu1⟩ : ∃ f, f = (if 0 < fu then fu - 1 else fu) := ⟨_, rfl⟩;rw [← hfu1];have HFU1 := Hi hfu1;clear hfu1;obtain ⟨As, cs, rfl⟩ := Kd.R_slice h.rs;obtain ⟨Aq, cq, rfl⟩ := Kd.R_slice h.rq;have HD := Hi hd;have hb1 := below_one W (.cells #[.int .i64 kk, .string pa, .string tp, .int .i64 kd, .int .u32 mo, .int .u32 ui, .int .u32 gi, .int .i64 mt, .int .i64 at_, .string da, .bool su] 93);have HB1 := Hi (hb0.trans (hb1.mono hb0.size));have HD1 := Hi (h.below hb1);have HK1 := Hi (heap_new W (.cells #[.int .i64 kk, .string pa, .string tp, .int .i64 kd, .int .u32 mo, .int .u32 ui, .int .u32 gi, .int .i64 mt, .int .i64 at_, .string da, .bool su] 93))
 have HQB := Hi (show some W.heap.size ≠ (Value.slice Aq q.length cq).ownBlock from fun e => by
  obtain ⟨inner, ho⟩ := Kd.R_own h.rq;have := own_lt ho _ e.symm
  omega)
 have HBC := Hi (show W.heap.size ≠ b from fun e => by have := h.lt; omega);have HS1 := Hi (Still.below (below_drew hb1) (Owns b vl (.slice As s.length cs) (.slice Aq q.length cq)));clear hd hb1 hb0 h;go_enter Tryz.func61, Tryz.ntmps61;go_wp2;generalize W.alloc (.cells #[.int .i64 kk, .string pa, .string tp, .int .i64 kd, .int .u32 mo, .int .u32 ui, .int .u32 gi, .int .i64 mt, .int .i64 at_, .string da, .bool su] 93) = W1 at *;generalize W.heap.size = bc at *;have HD4 : Hid (DAt W1.drew W0.heap.size b vl (.slice As s.length cs) (.slice Aq q.length cq) l s q lim fu fa st off) := Hi (HD1.out.below (below_drew (Below.refl _ _)));have HB4 : Hid (Below W0.heap.size W0 W1.drew) := Hi (below_drew HB1.out);have HK4 : Hid (W1.drew.heap[bc]? = some (.cells #[.int .i64 kk, .string pa, .string tp, .int .i64 kd, .int .u32 mo, .int .u32 ui, .int .u32 gi, .int .i64 mt, .int .i64 at_, .string da, .bool su] 93 (0, 0))) := Hi HK1.out;have p0 := HD4.out.c1;obtain ⟨p1, p2, p3, p4, p5, p6, p7, p8, p9, p10, p11⟩ := Own.cs11 HK4.out;refine start_ (n := 10) (S := fun w' => w'.cell? ⟨b, 1, none⟩ = some (.slice As s.length cs) ∧ w'.cell? ⟨bc, 0, none⟩ = some (.int .i64 kk) ∧ w'.cell? ⟨bc, 1, none⟩ = some (.string pa) ∧ w'.cell? ⟨bc, 2, none⟩ = some (.string tp) ∧ w'.cell? ⟨bc, 3, none⟩ = some (.int .i64 kd) ∧ w'.cell? ⟨bc, 4, none⟩ = some (.int .u32 mo) ∧ w'.cell? ⟨bc, 5, none⟩ = some (.int .u32 ui) ∧ w'.cell? ⟨bc, 6, none⟩ = some (.int .u32 gi) ∧ w'.cell? ⟨bc, 7, none⟩ = some (.int .i64 mt) ∧ w'.cell? ⟨bc, 8, none⟩ = some (.int .i64 at_) ∧ w'.cell? ⟨bc, 9, none⟩ = some (.string da) ∧ w'.cell? ⟨bc, 10, none⟩ = some (.bool su)) (ds := [9]) (bm 10 0) (by kernel_rfl) rfl rfl ⟨p0, p1, p2, p3, p4, p5, p6, p7, p8, p9, p10, p11⟩ (fun hHeld => ?_);generalize W1.drew = W4 at *;refine pure_ (i := 0) (N := some 5) (v := ?_) (a' := ?_) (bm 10 1) rfl rfl (by kernel_rfl) (fun _ _ _ h => h) (Or.inl ⟨by rfl, ?_⟩) ?_ ?_;rotate_left;intro w';go_simp;(with_reducible rfl);rotate_left;simp only [Act.put, nA, nZ, nS, i64_w, i32_w];rfl;refine pure_ (i := 1) (N := some 6) (v := ?_) (a' := ?_) (bm 10 3) rfl rfl (by kernel_rfl) (fun _ _ _ h => h) (Or.inl ⟨by rfl, ?_⟩) ?_ ?_;rotate_left;intro w';go_simp;(with_reducible rfl);rotate_left;simp only [Act.put, nA, nZ, nS, i64_w, i32_w];rfl;refine pure_ (i := 2) (N := some 7) (v := ?_) (a' := ?_) (bm 10 7) rfl rfl (by kernel_rfl) (fun _ _ _ h => h) (Or.inl ⟨by rfl, ?_⟩) ?_ ?_;rotate_left;intro w';go_simp;(with_reducible rfl);rotate_left;simp only [Act.put, nA, nZ, nS, i64_w, i32_w];rfl;refine pure_ (i := 3) (N := some 8) (v := ?_) (a' := ?_) (bm 10 15) rfl rfl (by kernel_rfl) (fun _ _ _ h => h) (Or.inl ⟨by rfl, ?_⟩) ?_ ?_;rotate_left;intro w';go_simp;(with_reducible rfl);rotate_left;simp only [Act.put, nA, nZ, nS, i64_w, i32_w];rfl;refine take_ (i := 4) (N := some 9) (v := ?_) (a' := ?_) (bm 10 31) rfl rfl (by kernel_rfl) (fun _ _ _ h => h) (Or.inl ⟨by rfl, ?_⟩) hHeld ?_ ?_;rotate_left;rintro w' ⟨s0, s1, s2, s3, s4, s5, s6, s7, s8, s9, s10, s11⟩;go_simp;(with_reducible rfl);rotate_left;simp only [Act.put, nA, nZ, nS, i64_w, i32_w];rfl
 refine take_ (i := 5) (N := some 10) (v := ?_) (a' := ?_) (bm 10 63) rfl rfl (by kernel_rfl) (fun _ _ _ h => h) (Or.inl ⟨by rfl, ?_⟩) hHeld ?_ ?_;rotate_left;rintro w' ⟨s0, s1, s2, s3, s4, s5, s6, s7, s8, s9, s10, s11⟩;go_simp;(with_reducible rfl);rotate_left;simp only [Act.put, nA, nZ, nS, i64_w, i32_w];rfl;refine one_ (i := 6) (N := some 11) (bm 10 127) rfl rfl (by kernel_rfl) (by decide) (fun K hK => ?_);refine goes_ Tryz.func51 (by kernel_rfl) rfl #[.slice As s.length cs, .agg #[.int .i64 kk, .string pa, .string tp, .int .i64 kd, .int .u32 mo, .int .u32 ui, .int .u32 gi, .int .i64 mt, .int .i64 at_, .string da, .bool su]] (by rfl) rfl rfl (by simp only [List.map_toArray, List.map_cons, List.map_nil]; rfl) ?_;with_reducible refine (HD.out W4 HB4.out HD4.out.rs).mono ?_
 rintro e w5 ⟨v1, rfl, hp5⟩;refine ⟨_, rfl, ?_⟩;obtain ⟨A1, c1, rfl⟩ := Kd.R_slice hp5.1;have HP5 := Hi hp5;have q0 := cell_grown hp5.2.1 p0 (Kd.R_ne HD4.out.rs HD4.out.blk (by decide));have q1 := cell_grown hp5.2.1 p1 (Kd.R_ne HD4.out.rs HK4.out (by decide));have q2 := cell_grown hp5.2.1 p2 (Kd.R_ne HD4.out.rs HK4.out (by decide));have q3 := cell_grown hp5.2.1 p3 (Kd.R_ne HD4.out.rs HK4.out (by decide));have q4 := cell_grown hp5.2.1 p4 (Kd.R_ne HD4.out.rs HK4.out (by decide));have q5 := cell_grown hp5.2.1 p5 (Kd.R_ne HD4.out.rs HK4.out (by decide));have q6 := cell_grown hp5.2.1 p6 (Kd.R_ne HD4.out.rs HK4.out (by decide));have q7 := cell_grown hp5.2.1 p7 (Kd.R_ne HD4.out.rs HK4.out (by decide));have q8 := cell_grown hp5.2.1 p8 (Kd.R_ne HD4.out.rs HK4.out (by decide));have q9 := cell_grown hp5.2.1 p9 (Kd.R_ne HD4.out.rs HK4.out (by decide));have q10 := cell_grown hp5.2.1 p10 (Kd.R_ne HD4.out.rs HK4.out (by decide));have q11 := cell_grown hp5.2.1 p11 (Kd.R_ne HD4.out.rs HK4.out (by decide));have z5 : w5.frozen? ⟨b, 1, none⟩ = false := frozen_of ((hp5.2.1.block b HD4.out.lt (Kd.R_ne HD4.out.rs HD4.out.blk (by decide))).trans HD4.out.blk) 1;have HK5 := Hi ((hp5.2.1.block bc (Own.lo HK4.out) (Kd.R_ne HD4.out.rs HK4.out (by decide))).trans HK4.out);have HB5 := Hi (below_grown HB4.out (Nat.le_refl _) hp5.2.1 (fun x hx => by obtain ⟨inner, hown⟩ := Kd.R_own HD4.out.rs; exact own_base hown x hx));clear hp5;refine hK.out _ _ ⟨q0, q1, q2, q3, q4, q5, q6, q7, q8, q9, q10, q11⟩ (fun hHeld => ?_);clear hK K;refine norm_ (a' := ?_) ?_ ?_;rotate_left
 ·
  show Act.put _ (some 11) _ = _
  simp only [Act.put, nA, nZ, nS, i64_w, i32_w];rfl
 refine pure_ (i := 7) (N := some 12) (v := ?_) (a' := ?_) (bm 10 255) rfl rfl (by kernel_rfl) (fun _ _ _ h => h) (Or.inl ⟨by rfl, ?_⟩) ?_ ?_;rotate_left;intro w';go_simp;(with_reducible rfl);rotate_left;simp only [Act.put, nA, nZ, nS, i64_w, i32_w];rfl;refine pure_ (i := 8) (N := some 13) (v := ?_) (a' := ?_) (bm 10 511) rfl rfl (by kernel_rfl) (fun _ _ _ h => h) (Or.inl ⟨by rfl, ?_⟩) ?_ ?_;rotate_left;intro w';go_simp;(with_reducible rfl);rotate_left;simp only [Act.put, nA, nZ, nS, i64_w, i32_w];rfl;refine last_ (i := 9) (N := none) (bm 10 1023) rfl rfl (by kernel_rfl) (by decide) (fun K hK => ?_);refine skip_ (w1 := ?_) (by rfl) rfl ?_ ?_;rotate_left
 ·
  go_simp;rfl
 refine hK.out _ _ ?_;clear hK K;refine done_ (by kernel_rfl) ?_;have HD6 := Hi (dshows HD4.out HP5.out);have HS6 := Hi ((HS1.out.trans (still_shows b vl _ HP5.out)).trans (still_set w5 b 1 (.slice A1 s1.length c1) _ _ _));have HB6 := Hi (below_grown HB5.out (Nat.le_refl _) (set_grown w5 b 1 (.slice A1 s1.length c1)) (fun x hx => by injection hx with hx; have := HD4.out.nb; omega));have HK6 := Hi (blk_far HK5.out (p := ⟨b, 1, none⟩) HBC.out (.slice A1 s1.length c1));clear p0 p1 p2 p3 p4 p5 p6 p7 p8 p9 p10 p11 q0 q1 q2 q3 q4 q5 q6 q7 q8 q9 q10 q11 z5;go_wp2;generalize w5.setCell ⟨b, 1, none⟩ (.slice A1 s1.length c1) = W6 at *;have HD7 : Hid (DAt W6.drew W0.heap.size b vl (.slice A1 s1.length c1) (.slice Aq q.length cq) l s1 q lim fu fa st off) := Hi (HD6.out.below (below_drew (Below.refl _ _)));have HB7 : Hid (Below W0.heap.size W0 W6.drew) := Hi (below_drew HB6.out);have HK7 : Hid (W6.drew.heap[bc]? = some (.cells #[.int .i64 kk, .string pa, .string tp, .int .i64 kd, .int .u32 mo, .int .u32 ui, .int .u32 gi, .int .i64 mt, .int .i64 at_, .string da, .bool su] 93 (0, 0))) := Hi HK6.out;have HS7 : Hid (Still W W6.drew (Owns b vl (.slice As s.length cs) (.slice Aq q.length cq)) (Owns b vl (.slice A1 s1.length c1) (.slice Aq q.length cq))) := Hi (HS6.out.trans (Still.below (below_drew (Below.refl _ _)) _));have r0 := HD7.out.c2;obtain ⟨r1, r2, r3, r4, r5, r6, r7, r8, r9, r10, r11⟩ := Own.cs11 HK7.out;refine start_ (n := 11) (S := fun w' => w'.cell? ⟨b, 2, none⟩ = some (.slice Aq q.length cq) ∧ w'.cell? ⟨bc, 0, none⟩ = some (.int .i64 kk) ∧ w'.cell? ⟨bc, 1, none⟩ = some (.string pa) ∧ w'.cell? ⟨bc, 2, none⟩ = some (.string tp) ∧ w'.cell? ⟨bc, 3, none⟩ = some (.int .i64 kd) ∧ w'.cell? ⟨bc, 4, none⟩ = some (.int .u32 mo) ∧ w'.cell? ⟨bc, 5, none⟩ = some (.int .u32 ui) ∧ w'.cell? ⟨bc, 6, none⟩ = some (.int .u32 gi) ∧ w'.cell? ⟨bc, 7, none⟩ = some (.int .i64 mt) ∧ w'.cell? ⟨bc, 8, none⟩ = some (.int .i64 at_) ∧ w'.cell? ⟨bc, 9, none⟩ = some (.string da) ∧ w'.cell? ⟨bc, 10, none⟩ = some (.bool su)) (ds := [10]) (bm 11 0) (by kernel_rfl) rfl rfl ⟨r0, r1, r2, r3, r4, r5, r6, r7, r8, r9, r10, r11⟩ (fun hHeld => ?_);generalize W6.drew = W7 at *;refine pure_ (i := 0) (N := some 14) (v := ?_) (a' := ?_) (bm 11 1) rfl rfl (by kernel_rfl) (fun _ _ _ h => h) (Or.inl ⟨by rfl, ?_⟩) ?_ ?_;rotate_left;intro w';go_simp;(with_reducible rfl);rotate_left;simp only [Act.put, nA, nZ, nS, i64_w, i32_w];rfl;refine pure_ (i := 1) (N := some 15) (v := ?_) (a' := ?_) (bm 11 3) rfl rfl (by kernel_rfl) (fun _ _ _ h => h) (Or.inl ⟨by rfl, ?_⟩) ?_ ?_;rotate_left;intro w';go_simp;(with_reducible rfl);rotate_left;simp only [Act.put, nA, nZ, nS, i64_w, i32_w];rfl;refine pure_ (i := 2) (N := some 16) (v := ?_) (a' := ?_) (bm 11 7) rfl rfl (by kernel_rfl) (fun _ _ _ h => h) (Or.inl ⟨by rfl, ?_⟩) ?_ ?_;rotate_left;intro w';go_simp;(with_reducible rfl);rotate_left;simp only [Act.put, nA, nZ, nS, i64_w, i32_w];rfl;refine pure_ (i := 3) (N := some 17) (v := ?_) (a' := ?_) (bm 11 15) rfl rfl (by kernel_rfl) (fun _ _ _ h => h) (Or.inl ⟨by rfl, ?_⟩) ?_ ?_
 rotate_left;intro w';go_simp;(with_reducible rfl);rotate_left;simp only [Act.put, nA, nZ, nS, i64_w, i32_w];rfl;refine take_ (i := 4) (N := some 18) (v := ?_) (a' := ?_) (bm 11 31) rfl rfl (by kernel_rfl) (fun _ _ _ h => h) (Or.inl ⟨by rfl, ?_⟩) hHeld ?_ ?_;rotate_left;rintro w' ⟨s0, s1, s2, s3, s4, s5, s6, s7, s8, s9, s10, s11⟩;go_simp;(with_reducible rfl);rotate_left;simp only [Act.put, nA, nZ, nS, i64_w, i32_w];rfl;refine take_ (i := 5) (N := some 19) (v := ?_) (a' := ?_) (bm 11 63) rfl rfl (by kernel_rfl) (fun _ _ _ h => h) (Or.inl ⟨by rfl, ?_⟩) hHeld ?_ ?_;rotate_left;rintro w' ⟨s0, s1, s2, s3, s4, s5, s6, s7, s8, s9, s10, s11⟩;go_simp;(with_reducible rfl);rotate_left;simp only [Act.put, nA, nZ, nS, i64_w, i32_w];rfl;refine one_ (i := 6) (N := some 20) (bm 11 127) rfl rfl (by kernel_rfl) (by decide) (fun K hK => ?_);refine value_ (w1 := ?_) (v := ?_) (by rfl) rfl ?_ ?_;rotate_left 2
 ·
  go_simp;constructor
  ·
   rfl
  rfl
 refine hK.out _ _ ⟨pw_cell_below (below_one _ _) r0, pw_cell_below (below_one _ _) r1, pw_cell_below (below_one _ _) r2, pw_cell_below (below_one _ _) r3, pw_cell_below (below_one _ _) r4, pw_cell_below (below_one _ _) r5, pw_cell_below (below_one _ _) r6, pw_cell_below (below_one _ _) r7, pw_cell_below (below_one _ _) r8, pw_cell_below (below_one _ _) r9, pw_cell_below (below_one _ _) r10, pw_cell_below (below_one _ _) r11⟩ (fun hHeld => ?_);clear hK K;refine norm_ (a' := ?_) ?_ ?_;rotate_left
 ·
  show Act.put _ (some 20) _ = _
  simp only [Act.put, nA, nZ, nS, i64_w, i32_w];rfl
 refine one_ (i := 7) (N := some 21) (bm 11 255) rfl rfl (by kernel_rfl) (by decide) (fun K hK => ?_);refine Kd.R_append_step chK (w0 := W7) W0.heap.size (by rfl) (.tmp 18) (.tmp 20) 82 93 (.agg #[.int .i64 0, .string ByteArray.empty, .string ByteArray.empty, .int .i64 0, .int .u32 0, .int .u32 0, .int .u32 0, .int .i64 0, .int .i64 0, .string ByteArray.empty, .bool false]) 104 rfl Tryz.underlying82 infoCh rfl (by decide) (by decide) _ q (kk, pa, tp, (kd, mo, ui, gi, mt, at_, da), su) [.int .i64 kk, .string pa, .string tp, .int .i64 kd, .int .u32 mo, .int .u32 ui, .int .u32 gi, .int .i64 mt, .int .i64 at_, .string da, .bool su] (fun _ => True) (fun _ => False) rfl rfl ?aP (fun _ hk => hk.elim) ?aF ?aO ?aB ?aS ?aL ?_
 (case aP => exact chK_M _ _ _ _ _ _ _ _ _ _ _ _ _ _)
 (case aB => exact Below.refl _ _)
 (case aF => exact (fun _ _ => trivial))
 (case aO => exact HD7.out.rq)
 (case aS => exact HB7.out.size)
 (case aL => omega)
 intro v1 w8 ho hb8 hg8 hat8;obtain ⟨A2, c2, hv2⟩ := Kd.R_slice ho;generalize (q ++ [(kk, pa, tp, (kd, mo, ui, gi, mt, at_, da), su)]).length = N at hv2;subst hv2;have HO8 := Hi ho;have HG8 := Hi hg8;have HA8 := Hi hat8;have q0 := cell_grown hg8 r0 (Kd.R_ne HD7.out.rq HD7.out.blk (by decide));have q1 := cell_grown hg8 r1 HQB.out;have q2 := cell_grown hg8 r2 HQB.out;have q3 := cell_grown hg8 r3 HQB.out;have q4 := cell_grown hg8 r4 HQB.out;have q5 := cell_grown hg8 r5 HQB.out;have q6 := cell_grown hg8 r6 HQB.out;have q7 := cell_grown hg8 r7 HQB.out;have q8 := cell_grown hg8 r8 HQB.out;have q9 := cell_grown hg8 r9 HQB.out;have q10 := cell_grown hg8 r10 HQB.out;have q11 := cell_grown hg8 r11 HQB.out;have z8 : w8.frozen? ⟨b, 2, none⟩ = false := frozen_of ((hg8.block b HD7.out.lt (Kd.R_ne HD7.out.rq HD7.out.blk (by decide))).trans HD7.out.blk) 2;have HB8 := Hi (below_grown HB7.out (Nat.le_refl _) hg8 (fun x hx => by obtain ⟨inner, hown⟩ := Kd.R_own HD7.out.rq; exact own_base hown x hx));clear ho hb8 hg8 hat8;refine hK.out _ _ ⟨q0, q1, q2, q3, q4, q5, q6, q7, q8, q9, q10, q11⟩ (fun hHeld => ?_);clear hK K;refine norm_ (a' := ?_) ?_ ?_;rotate_left
 ·
  show Act.put _ (some 21) _ = _
  simp only [Act.put, nA, nZ, nS, i64_w, i32_w];rfl
 refine pure_ (i := 8) (N := some 22) (v := ?_) (a' := ?_) (bm 11 511) rfl rfl (by kernel_rfl) (fun _ _ _ h => h) (Or.inl ⟨by rfl, ?_⟩) ?_ ?_;rotate_left;intro w';go_simp;(with_reducible rfl);rotate_left;simp only [Act.put, nA, nZ, nS, i64_w, i32_w];rfl;refine pure_ (i := 9) (N := some 23) (v := ?_) (a' := ?_) (bm 11 1023) rfl rfl (by kernel_rfl) (fun _ _ _ h => h) (Or.inl ⟨by rfl, ?_⟩) ?_ ?_;rotate_left;intro w';go_simp;(with_reducible rfl);rotate_left;simp only [Act.put, nA, nZ, nS, i64_w, i32_w];rfl;refine last_ (i := 10) (N := none) (bm 11 2047) rfl rfl (by kernel_rfl) (by decide) (fun K hK => ?_);refine skip_ (w1 := ?_) (by rfl) rfl ?_ ?_;rotate_left
 ·
  go_simp;rfl
 refine hK.out _ _ ?_;clear hK K;refine done_ (by kernel_rfl) ?_;have HD9 := Hi (dwaits HD7.out HO8.out HG8.out);have HB9 := Hi (below_grown HB8.out (Nat.le_refl _) (set_grown w8 b 2 (.slice A2 N c2)) (fun x hx => by injection hx with hx; have := HD7.out.nb; omega));have HS9 := Hi ((HS7.out.trans (still_waits b vl _ HG8.out HA8.out)).trans (still_set w8 b 2 (.slice A2 N c2) _ _ _));have HE := Hi (end_any W0.heap.size b vl _ _ l s1 _ lim fu fa st off _ HD9.out hfu hst hst2)
 go_wp2_with fail
 refine HE.out.mono ?_;rintro e w10 ⟨rfl, hd10, hg10⟩;rw [← HFU1.out] at hd10;have HD10 := Hi hd10;have HB10 := Hi (below_grown HB9.out (Nat.le_refl _) hg10 (fun x hx => by injection hx with hx; have := HD7.out.nb; omega));have HS10 := Hi (HS9.out.trans (still_own _ _ _ hg10));clear hd10 hg10;go_wp2;go_ret;exact ⟨rfl, ⟨_, _, HD10.out, HS10.out⟩, HB10.out⟩
theorem wait_by (W0 : World) (b : Nat) (vl vs vq : Value) (d : Dk) (k : Int) (pa tp : ByteArray) (kd mo ui gi mt at_ : Int) (da : ByteArray) (W : World) (hb0 : Below W0.heap.size W0 W) (h : DkAt W W0.heap.size b vl vs vq d) (hd : ∀ W', Below W0.heap.size W0 W' → itemK.R 77 W' W0.heap.size (fun _ => True) vs d.shows → Calls Tryz.prog 51 #[vs, .agg #[.int .i64 k, .string pa, .string tp, .int .i64 kd, .int .u32 mo, .int .u32 ui, .int .u32 gi, .int .i64 mt, .int .i64 at_, .string da, .bool false]] W' fun e w' => ∃ v1, e = .returned v1 ∧ RowPost W0.heap.size W' w' vs v1 (doneP d.shows (k, pa, tp, (kd, mo, ui, gi, mt, at_, da), false)))
  (hfu : d.fuse ≤ 9223372036854775807) (h0 : 0 ≤ d.steps) (h1 : d.steps < 1000000) (hq : d.waits.length ≤ 1000000) :
  Calls Tryz.prog 61 #[.pointer (some ⟨b, 0, none⟩), .agg #[.int .i64 k, .string pa, .string tp, .int .i64 kd, .int .u32 mo, .int .u32 ui, .int .u32 gi, .int .i64 mt, .int .i64 at_, .string da, .bool false]] W fun e w' => e = .returned (.int .i64 0) ∧ (∃ vs1 vq1, DkAt w' W0.heap.size b vl vs1 vq1 (endD (waitD d (k, pa, tp, (kd, mo, ui, gi, mt, at_, da), false))) ∧ Still W w' (Owns b vl vs vq) (Owns b vl vs1 vq1)) ∧ Below W0.heap.size W0 w' := by
 have hsh : (endD (waitD d (k, pa, tp, (kd, mo, ui, gi, mt, at_, da), false))).shows = doneP d.shows (k, pa, tp, (kd, mo, ui, gi, mt, at_, da), false) := by
  show (d.waits ++ [_]).foldl doneP d.base = _
  rw [List.foldl_append]; rfl
 have := wait_any W0 b vl vs vq d.base d.shows (doneP d.shows (k, pa, tp, (kd, mo, ui, gi, mt, at_, da), false)) d.waits d.limit d.fuse d.fail d.steps d.off k pa tp kd mo ui gi mt at_ da false W hb0 h hd hfu h0 h1 hq;refine this.mono ?_;rintro e w' ⟨rfl, ⟨v1, v2, hd, hst⟩, hb⟩;refine ⟨rfl, ⟨v1, v2, ?_, hst⟩, hb⟩
 show DAt w' W0.heap.size b vl v1 v2 _ (endD (waitD d (k, pa, tp, (kd, mo, ui, gi, mt, at_, da), false))).shows _ _ _ _ _ _
 rw [hsh];exact hd
theorem wait_dk (W0 : World) (hg0 : Glob W0) (b : Nat) (vl vs vq : Value) (d : Dk) (k : Int) (pa tp : ByteArray) (kd mo ui gi mt at_ : Int) (da : ByteArray) (W : World) (hb0 : Below W0.heap.size W0 W) (h : DkAt W W0.heap.size b vl vs vq d) (hs : d.shows.length ≤ 900000) (hss : ∀ x ∈ d.shows, x.1.size < 4294967281) (hst : Strict d.shows) (hp : pa.size < 4294967281) (hp2 : tp.size < 4294967281)
  (hk : k = 0 ∨ k = 1 ∨ k = 2 ∨ k = 3 ∨ k = 4) (hfu : d.fuse ≤ 9223372036854775807) (h0 : 0 ≤ d.steps) (h1 : d.steps < 1000000) (hq : d.waits.length ≤ 1000000) :
  Calls Tryz.prog 61 #[.pointer (some ⟨b, 0, none⟩), .agg #[.int .i64 k, .string pa, .string tp, .int .i64 kd, .int .u32 mo, .int .u32 ui, .int .u32 gi, .int .i64 mt, .int .i64 at_, .string da, .bool false]] W fun e w' => e = .returned (.int .i64 0) ∧ (∃ vs1 vq1, DkAt w' W0.heap.size b vl vs1 vq1 (endD (waitD d (k, pa, tp, (kd, mo, ui, gi, mt, at_, da), false))) ∧ Still W w' (Owns b vl vs vq) (Owns b vl vs1 vq1)) ∧ Below W0.heap.size W0 w' :=
 wait_by W0 b vl vs vq d k pa tp kd mo ui gi mt at_ da W hb0 h (fun W' hb h => done_any W0 hg0 vs d.shows pa tp kd mo ui gi mt at_ da false W' hb h hs hss hst hp hp2 k hk) hfu h0 h1 hq
end Go.Proofs.YtibmfjacfbpfgaaGreatDoor.DWait
