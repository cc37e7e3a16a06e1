/- disk: Make, Write, Rename, Stat at paths of one part. -/
import Derived.Test.YtfogfkikkekmkaaDoorDiskWait
import Derived.Laws.ResultCell
set_option linter.unusedVariables false
set_option linter.unusedSimpArgs false
namespace Go.Proofs.YtfogfkikkekmkaaDoor.DiskActs
open Go.RowKit Go.Proofs.YtfogfkikkekmkaaDoorW.PrintWords Go.Proofs.YtfogfkikkekmkaaDoorW.PrintLast Go.Proofs.YtfogfkikkekmkaaDoorW.PrintMore Go.Proofs.YtfogfkikkekmkaaDoor.NameWalk Go.Proofs.YtfogfkikkekmkaaDoor.Item Go.Proofs.YtfogfkikkekmkaaDoor.DiskAt Go.Proofs.YtfogfkikkekmkaaDoor.DiskReal Go.Proofs.YtfogfkikkekmkaaDoor.DiskSmall Go.Proofs.YtfogfkikkekmkaaDoor.DiskRows Go.Proofs.YtfogfkikkekmkaaDoor.DiskDone Go.Proofs.YtfogfkikkekmkaaDoor.DiskWait

/-- A disk that may be stepped: what all acts here want of it. -/
structure Fine (W0 W : World) (b : Nat) (vl vs vq : Value) (l s : List It) (q : List Ch) (lim fu fa st : Int) : Prop where
  d : DAt W W0.heap.size b vl vs vq l s q lim fu fa st false
  bel : Below W0.heap.size W0 W
  glob : Glob W0
  fu0 : fu < 0
  fa0 : fa < 1
  st0 : 0 ≤ st
  st1 : st < 1000000
  sl : s.length ≤ 1000000
  ql : q.length ≤ 1000000
  ss : ∀ x ∈ s, x.1.size < 4294967281
  sd : ∀ x ∈ s, x.2.2.2.2.2.2.2.size ≤ 1000000
section
variable {W0 W W1 : World} {b : Nat} {vl vs vq : Value} {l s : List It} {q : List Ch} {lim fu fa st : Int}
theorem Fine.below (h : Fine W0 W b vl vs vq l s q lim fu fa st) (hb : Below W.heap.size W W1) : Fine W0 W1 b vl vs vq l s q lim fu fa st :=
  { h with d := h.d.below hb, bel := h.bel.trans (hb.mono h.bel.size) }
theorem Fine.node (h : Fine W0 W b vl vs vq l s q lim fu fa st) {bn : Nat} {cs : Array Value} (hn : W.heap[bn]? = some (.cells cs 25 (0, 0))) (hbn : W0.heap.size ≤ bn) (j : Nat) (u : Value) : Fine W0 (W.setCell ⟨bn, j, none⟩ u) b vl vs vq l s q lim fu fa st :=
  { h with
    d := ⟨blk_far h.d.blk (p := ⟨bn, j, none⟩) (fun e => by
        have h1 := h.d.blk
        rw [show b = bn from e, hn] at h1
        injection h1 with h1
        injection h1 with _ h1
        exact absurd h1 (by decide)) u, Kd.R_set h.d.rl hn (by decide) j u, Kd.R_set h.d.rs hn (by decide) j u, Kd.R_set h.d.rq hn (by decide) j u, h.d.nb⟩
    bel := below_grown h.bel (Nat.le_refl _) (set_grown _ _ _ _) (fun x hx => by injection hx with hx; omega) }
theorem Fine.g (h : Fine W0 W b vl vs vq l s q lim fu fa st) : Glob W := h.glob.below h.bel
theorem Fine.begin_ (h : Fine W0 W b vl vs vq l s q lim fu fa st) : Calls Tryd.prog 55 #[.pointer (some ⟨b, 0, none⟩)] W fun e w' => e = .returned (.int .i64 0) ∧ Below W.heap.size W w' :=
  begin_ok b fu fa W h.d.c4 h.d.c5 h.d.c6 (by have := h.fu0; omega) h.fa0
theorem Fine.real_ (h : Fine W0 W b vl vs vq l s q lim fu fa st) {p : ByteArray} (hp : OneP p) : Calls Tryd.prog 18 #[.pointer (some ⟨b, 0, none⟩), .string p] W fun e w' => e = .returned (.tuple #[.string p, .int .i64 0]) ∧ Below W.heap.size W w' :=
  real_one p hp b W h.g
theorem Fine.kind_ (h : Fine W0 W b vl vs vq l s q lim fu fa st) {p : ByteArray} (hp : OneP p) (hp0 : p.toList ≠ []) : Calls Tryd.prog 46 #[.pointer (some ⟨b, 0, none⟩), .string p] W fun e w' => e = .returned (.int .i64 (kindP s p)) ∧ Below W.heap.size W w' := by
  obtain ⟨A, c, he, _, hC⟩ := Kd.R_reads h.d.rs
  have c1 := h.d.c1
  rw [he] at c1
  exact kind_any b s A c p W h.g c1 hC h.sl h.ss (by have := hp.sz; omega) hp0
theorem Fine.full_ (h : Fine W0 W b vl vs vq l s q lim fu fa st) (p : ByteArray) (m : Int) (h1 : 0 ≤ m) (h2 : m ≤ 1000000) : Calls Tryd.prog 56 #[.pointer (some ⟨b, 0, none⟩), .string p, .int .i64 m] W fun e w' => e = .returned (.bool (decide (lim < m + sumP p s))) ∧ Below W.heap.size W w' := by
  obtain ⟨A, c, he, _, hC⟩ := Kd.R_reads h.d.rs
  have c1 := h.d.c1
  rw [he] at c1
  exact full_any b s A c p m lim W c1 h.d.c3 hC h.sl h.sd h1 h2
end
set_option maxHeartbeats 8000000 in
set_option maxRecDepth 100000 in
theorem make_file (W0 W : World) (b : Nat) (vl vs vq : Value) (l s : List It) (q : List Ch) (lim fu fa st : Int) (hf : Fine W0 W b vl vs vq l s q lim fu fa st) (p : ByteArray) (hp : OneP p) (hp0 : p.toList ≠ []) (hk : kindP s p = 0) (hfl : decide (lim < 0 + sumP p s) = false) (h0 : hereP s p = false) (h1 : placeP s p = s.length) :
    Calls Tryd.prog 20 #[.pointer (some ⟨b, 0, none⟩), .string p, .agg #[.int .i64 2, .int .u32 0, .int .u32 0, .int .u32 0, .int .i64 0, .int .i64 0, .string ⟨#[]⟩]] W fun e w' => e = .returned (.int .i64 0) ∧
      (∃ vs1 vq1, DAt w' W0.heap.size b vl vs1 vq1 l (s ++ [(p, 2, 0, 0, 0, 0, 0, ⟨#[]⟩)]) (q ++ [(0, p, ⟨#[]⟩, (2, 0, 0, 0, 0, 0, ⟨#[]⟩), false)]) lim fu fa (st + 1) false) ∧ Below W0.heap.size W0 w' := by
  have hb1 := below_one W (.cells #[.int .i64 2, .int .u32 0, .int .u32 0, .int .u32 0, .int .i64 0, .int .i64 0, .string ⟨#[]⟩] 25)
  have HF := Lib.hid (hf.below hb1)
  have HN := Lib.hid (heap_new W (.cells #[.int .i64 2, .int .u32 0, .int .u32 0, .int .u32 0, .int .i64 0, .int .i64 0, .string ⟨#[]⟩] 25))
  have HD : Hid (∀ W', Below W0.heap.size W0 W' → itemK.R 57 W' W0.heap.size (fun _ => True) vs s → Calls Tryd.prog 43 #[vs, .agg #[.int .i64 0, .string p, .string ⟨#[]⟩, .int .i64 2, .int .u32 0, .int .u32 0, .int .u32 0, .int .i64 0, .int .i64 0, .string ⟨#[]⟩, .bool false]] W' fun e w' => ∃ v1, e = .returned v1 ∧ RowPost W0.heap.size W' w' vs v1 (s ++ [(p, 2, 0, 0, 0, 0, 0, ⟨#[]⟩)])) :=
    Lib.hid (fun W' hb hr => done_put W0.heap.size vs s p ⟨#[]⟩ 2 0 0 0 0 0 ⟨#[]⟩ false W' (hf.glob.below hb) hr hb.size hf.sl hf.ss (by have := hp.sz; omega) h0 h1)
  have HBN := Lib.hid (show W0.heap.size ≤ W.heap.size from hf.bel.size)
  have hst1 := hf.st1
  have hst0 := hf.st0
  have hfu0 := hf.fu0
  have hql := hf.ql
  have HP := Lib.hid hp
  have HP0 := Lib.hid hp0
  have HKD := Lib.hid hk
  have HFL := Lib.hid hfl
  clear hf hb1 hp hp0 h0 h1 hk hfl
  go_enter Tryd.func20, Tryd.ntmps20
  go_wp2_with fail
  generalize W.alloc (.cells #[.int .i64 2, .int .u32 0, .int .u32 0, .int .u32 0, .int .i64 0, .int .i64 0, .string ⟨#[]⟩] 25) = W1 at *
  generalize W.heap.size = bn at *
  refine HF.out.begin_.mono ?_
  rintro e w2 ⟨rfl, hb2⟩
  have HF := Lib.hid (HF.out.below hb2)
  have HN := Lib.hid ((hb2.block bn (Array.getElem?_eq_some_iff.1 HN.out).1).trans HN.out)
  clear hb2
  go_wp2_with fail
  refine (HF.out.real_ HP.out).mono ?_
  rintro e w3 ⟨rfl, hb3⟩
  have HF := Lib.hid (HF.out.below hb3)
  have hn3 := (hb3.block bn (Array.getElem?_eq_some_iff.1 HN.out).1).trans HN.out
  have HN := Lib.hid hn3
  have k0 : w3.cell? ⟨bn, 0, none⟩ = some (.int .i64 2) := by rw [cell_of hn3]; rfl
  have k1 : w3.cell? ⟨bn, 1, none⟩ = some (.int .u32 0) := by rw [cell_of hn3]; rfl
  have k2 : w3.cell? ⟨bn, 2, none⟩ = some (.int .u32 0) := by rw [cell_of hn3]; rfl
  have k3 : w3.cell? ⟨bn, 3, none⟩ = some (.int .u32 0) := by rw [cell_of hn3]; rfl
  have k4 : w3.cell? ⟨bn, 4, none⟩ = some (.int .i64 0) := by rw [cell_of hn3]; rfl
  have k5 : w3.cell? ⟨bn, 5, none⟩ = some (.int .i64 0) := by rw [cell_of hn3]; rfl
  have k6 : w3.cell? ⟨bn, 6, none⟩ = some (.string ⟨#[]⟩) := by rw [cell_of hn3]; rfl

  have z1 : w3.frozen? ⟨bn, 1, none⟩ = false := frozen_of hn3 1
  have hbits : bits BinOp.and IntKind.u32 0 4095 = 0 := by decide
  clear hb3 hn3
  go_wp2_with fail
  have hset : (w3.setCell ⟨bn, 1, none⟩ (.int .u32 0)).heap[bn]? = some (.cells #[.int .i64 2, .int .u32 0, .int .u32 0, .int .u32 0, .int .i64 0, .int .i64 0, .string ⟨#[]⟩] 25 (0, 0)) := blk_put HN.out 1 _ rfl
  have HF := Lib.hid (HF.out.node HN.out HBN.out 1 (.int .u32 0))
  have HN := Lib.hid hset
  clear k0 k1 k2 k3 k4 k5 k6 z1 hset
  generalize w3.setCell ⟨bn, 1, none⟩ (.int .u32 0) = w3 at *
  have HKN := Lib.hid (HF.out.kind_ HP.out HP0.out)
  rw [HKD.out] at HKN
  refine HKN.out.mono ?_
  rintro e w4 ⟨rfl, hb4⟩
  have HF := Lib.hid (HF.out.below hb4)
  have hn4 := (hb4.block bn (Array.getElem?_eq_some_iff.1 HN.out).1).trans HN.out
  have HN := Lib.hid hn4
  have k6 : w4.cell? ⟨bn, 6, none⟩ = some (.string ⟨#[]⟩) := by rw [cell_of hn4]; rfl
  clear hb4 hn4
  go_wp2_with fail
  have HFN := Lib.hid (HF.out.full_ p 0 (by omega) (by omega))
  rw [HFL.out] at HFN
  refine HFN.out.mono ?_
  rintro e w5 ⟨rfl, hb5⟩
  have HF := Lib.hid (HF.out.below hb5)
  have hn5 := (hb5.block bn (Array.getElem?_eq_some_iff.1 HN.out).1).trans HN.out
  have HN := Lib.hid hn5
  have k0 : w5.cell? ⟨bn, 0, none⟩ = some (.int .i64 2) := by rw [cell_of hn5]; rfl
  have k1 : w5.cell? ⟨bn, 1, none⟩ = some (.int .u32 0) := by rw [cell_of hn5]; rfl
  have k2 : w5.cell? ⟨bn, 2, none⟩ = some (.int .u32 0) := by rw [cell_of hn5]; rfl
  have k3 : w5.cell? ⟨bn, 3, none⟩ = some (.int .u32 0) := by rw [cell_of hn5]; rfl
  have k4 : w5.cell? ⟨bn, 4, none⟩ = some (.int .i64 0) := by rw [cell_of hn5]; rfl
  have k5 : w5.cell? ⟨bn, 5, none⟩ = some (.int .i64 0) := by rw [cell_of hn5]; rfl
  have k6 : w5.cell? ⟨bn, 6, none⟩ = some (.string ⟨#[]⟩) := by rw [cell_of hn5]; rfl

  clear hb5 hn5
  go_wp2_with fail
  refine (wait_any W0 b vl vs vq l s (s ++ [(p, 2, 0, 0, 0, 0, 0, ⟨#[]⟩)]) q lim fu fa st false 0 p ⟨#[]⟩ 2 0 0 0 0 0 ⟨#[]⟩ false _ HF.out.bel HF.out.d HD.out (by omega) hst0 hst1 hql).mono ?_
  rintro e w6 ⟨rfl, hd6, hb6⟩
  have HD6 := Lib.hid hd6
  have HB6 := Lib.hid hb6
  clear hd6 hb6
  go_wp2
  go_ret
  exact ⟨rfl, HD6.out, HB6.out⟩
set_option maxHeartbeats 4000000 in
theorem file_ok (W0 W : World) (b : Nat) (vl vs vq : Value) (l s : List It) (q : List Ch) (lim fu fa st : Int) (hf : Fine W0 W b vl vs vq l s q lim fu fa st) (p : ByteArray) (hp : OneP p) (hp0 : p.toList ≠ []) (hk : kindP s p = 2) :
    Calls Tryd.prog 87 #[.pointer (some ⟨b, 0, none⟩), .string p] W fun e w' => e = .returned (.tuple #[.string p, .int .i64 0]) ∧ Below W.heap.size W w' := by
  have HF := Lib.hid hf
  have HP := Lib.hid hp
  have HP0 := Lib.hid hp0
  have HKD := Lib.hid hk
  clear hf hp hp0 hk
  go_enter Tryd.func87, Tryd.ntmps87
  go_wp2_with fail
  refine (HF.out.real_ HP.out).mono ?_
  rintro e w3 ⟨rfl, hb3⟩
  have HF := Lib.hid (HF.out.below hb3)
  have HB := Lib.hid hb3
  clear hb3
  go_wp2_with fail
  have HKN := Lib.hid (HF.out.kind_ HP.out HP0.out)
  rw [HKD.out] at HKN
  refine HKN.out.mono ?_
  rintro e w4 ⟨rfl, hb4⟩
  have HB := Lib.hid (below_next HB.out hb4)
  clear hb4
  go_wp2
  go_ret2
  exact ⟨rfl, HB.out⟩
set_option maxHeartbeats 8000000 in
set_option maxRecDepth 100000 in
theorem write_ok (W0 W : World) (b : Nat) (vl vs vq : Value) (l s : List It) (q : List Ch) (lim fu fa st : Int) (hf : Fine W0 W b vl vs vq l s q lim fu fa st) (p d : ByteArray) (hp : OneP p) (hp0 : p.toList ≠ []) (hk : kindP s p = 2) (hd : d.size ≤ 1000000) (hfl : decide (lim < (d.size : Int) + sumP p s) = false) (h0 : hereP s p = true) (h1 : placeP s p < s.length) (y : It) (hy : cellsI y = (cellsI s[placeP s p]).set 7 (.string d)) :
    Calls Tryd.prog 54 #[.pointer (some ⟨b, 0, none⟩), .string p, .string d] W fun e w' => e = .returned (.int .i64 0) ∧
      (∃ vs1 vq1, DAt w' W0.heap.size b vl vs1 vq1 l (s.set (placeP s p) y) (q ++ [(1, p, ⟨#[]⟩, (0, 0, 0, 0, 0, 0, d), false)]) lim fu fa (st + 1) false) ∧ Below W0.heap.size W0 w' := by
  have HF := Lib.hid hf
  have HD : Hid (∀ W', Below W0.heap.size W0 W' → itemK.R 57 W' W0.heap.size (fun _ => True) vs s → Calls Tryd.prog 43 #[vs, .agg #[.int .i64 1, .string p, .string ⟨#[]⟩, .int .i64 0, .int .u32 0, .int .u32 0, .int .u32 0, .int .i64 0, .int .i64 0, .string d, .bool false]] W' fun e w' => ∃ v1, e = .returned v1 ∧ RowPost W0.heap.size W' w' vs v1 (s.set (placeP s p) y)) :=
    Lib.hid (fun W' hb hr => done_fill W0.heap.size vs s p ⟨#[]⟩ 0 0 0 0 0 0 d false W' (hf.glob.below hb) hr hf.sl hf.ss (by have := hp.sz; omega) h0 h1 y hy)
  have hst1 := hf.st1
  have hst0 := hf.st0
  have hfu0 := hf.fu0
  have hql := hf.ql
  have HP := Lib.hid hp
  have HP0 := Lib.hid hp0
  have HKD := Lib.hid hk
  have HFL := Lib.hid hfl
  clear hf hp hp0 h0 h1 hk hfl hy
  generalize s.set (placeP s p) y = s1 at *
  go_enter Tryd.func54, Tryd.ntmps54
  go_wp2_with fail
  refine HF.out.begin_.mono ?_
  rintro e w2 ⟨rfl, hb2⟩
  have HF := Lib.hid (HF.out.below hb2)
  clear hb2
  go_wp2_with fail
  refine (file_ok W0 _ b vl vs vq l s q lim fu fa st HF.out p HP.out HP0.out HKD.out).mono ?_
  rintro e w3 ⟨rfl, hb3⟩
  have HF := Lib.hid (HF.out.below hb3)
  clear hb3
  go_wp2_with fail
  have HFN := Lib.hid (HF.out.full_ p (d.size : Int) (by omega) (by omega))
  rw [HFL.out] at HFN
  refine HFN.out.mono ?_
  rintro e w5 ⟨rfl, hb5⟩
  have HF := Lib.hid (HF.out.below hb5)
  clear hb5
  go_wp2_with fail
  refine (wait_any W0 b vl vs vq l s s1 q lim fu fa st false 1 p ⟨#[]⟩ 0 0 0 0 0 0 d false _ HF.out.bel HF.out.d HD.out (by omega) hst0 hst1 hql).mono ?_
  rintro e w6 ⟨rfl, hd6, hb6⟩
  have HD6 := Lib.hid hd6
  have HB6 := Lib.hid hb6
  clear hd6 hb6
  go_wp2
  go_ret
  exact ⟨rfl, HD6.out, HB6.out⟩
set_option maxHeartbeats 8000000 in
set_option maxRecDepth 100000 in
theorem rename_ok (W0 W : World) (b : Nat) (vl vs vq : Value) (l s s1 : List It) (q : List Ch) (lim fu fa st : Int) (hf : Fine W0 W b vl vs vq l s q lim fu fa st) (p t : ByteArray) (hp : OneP p) (hp0 : p.toList ≠ []) (ht : OneP t) (ht0 : t.toList ≠ []) (hk : kindP s p = 2) (hk2 : kindP s t = 0)
    (hd : ∀ W', Below W0.heap.size W0 W' → itemK.R 57 W' W0.heap.size (fun _ => True) vs s → Calls Tryd.prog 43 #[vs, .agg #[.int .i64 3, .string p, .string t, .int .i64 0, .int .u32 0, .int .u32 0, .int .u32 0, .int .i64 0, .int .i64 0, .string ⟨#[]⟩, .bool false]] W' fun e w' => ∃ v1, e = .returned v1 ∧ RowPost W0.heap.size W' w' vs v1 s1) :
    Calls Tryd.prog 22 #[.pointer (some ⟨b, 0, none⟩), .string p, .string t] W fun e w' => e = .returned (.int .i64 0) ∧
      (∃ vs1 vq1, DAt w' W0.heap.size b vl vs1 vq1 l s1 (q ++ [(3, p, t, (0, 0, 0, 0, 0, 0, ⟨#[]⟩), false)]) lim fu fa (st + 1) false) ∧ Below W0.heap.size W0 w' := by
  have HF := Lib.hid hf
  have HD := Lib.hid hd
  have hst1 := hf.st1
  have hst0 := hf.st0
  have hfu0 := hf.fu0
  have hql := hf.ql
  have HP := Lib.hid hp
  have HP0 := Lib.hid hp0
  have HT := Lib.hid ht
  have HT0 := Lib.hid ht0
  have HKD := Lib.hid hk
  have HKT := Lib.hid hk2
  clear hf hp hp0 hk hk2 ht ht0 hd
  go_enter Tryd.func22, Tryd.ntmps22
  go_wp2_with fail
  refine HF.out.begin_.mono ?_
  rintro e w2 ⟨rfl, hb2⟩
  have HF := Lib.hid (HF.out.below hb2)
  clear hb2
  go_wp2_with fail
  refine (HF.out.real_ HP.out).mono ?_
  rintro e w3 ⟨rfl, hb3⟩
  have HF := Lib.hid (HF.out.below hb3)
  clear hb3
  go_wp2_with fail
  refine (HF.out.real_ HT.out).mono ?_
  rintro e w4 ⟨rfl, hb4⟩
  have HF := Lib.hid (HF.out.below hb4)
  clear hb4
  go_wp2_with fail
  have HKN := Lib.hid (HF.out.kind_ HP.out HP0.out)
  rw [HKD.out] at HKN
  refine HKN.out.mono ?_
  rintro e w5 ⟨rfl, hb5⟩
  have HF := Lib.hid (HF.out.below hb5)
  clear hb5
  go_wp2_with fail
  have HKN := Lib.hid (HF.out.kind_ HP.out HP0.out)
  rw [HKD.out] at HKN
  refine HKN.out.mono ?_
  rintro e w6 ⟨rfl, hb6⟩
  have HF := Lib.hid (HF.out.below hb6)
  clear hb6
  go_wp2_with fail
  have HKN := Lib.hid (HF.out.kind_ HT.out HT0.out)
  rw [HKT.out] at HKN
  refine HKN.out.mono ?_
  rintro e w7 ⟨rfl, hb7⟩
  have HF := Lib.hid (HF.out.below hb7)
  clear hb7
  go_wp2_with fail
  refine (wait_any W0 b vl vs vq l s s1 q lim fu fa st false 3 p t 0 0 0 0 0 0 ⟨#[]⟩ false _ HF.out.bel HF.out.d HD.out (by omega) hst0 hst1 hql).mono ?_
  rintro e w8 ⟨rfl, hd8, hb8⟩
  have HD8 := Lib.hid hd8
  have HB8 := Lib.hid hb8
  clear hd8 hb8
  go_wp2
  go_ret
  exact ⟨rfl, HD8.out, HB8.out⟩
end Go.Proofs.YtfogfkikkekmkaaDoor.DiskActs
