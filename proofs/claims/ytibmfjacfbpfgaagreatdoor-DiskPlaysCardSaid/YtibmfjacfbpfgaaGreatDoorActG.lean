/- disk: an act, as the laws do it to both disks; a step that has an error changes nothing. -/
import Derived.Test.YtibmfjacfbpfgaaGreatDoorLawD
import Derived.Test.YtibmfjacfbpfgaaGreatDoorItem
import Derived.Deep.Slices
import Derived.ChangeArms
import Derived.WideShapes
import Derived.Test.YtibmfjacfbpfgaaGreatDoorOwn
set_option linter.unusedVariables false
set_option linter.unusedSimpArgs false
namespace Go.Proofs.YtibmfjacfbpfgaaGreatDoor.ActLaw
open Stab SortLaw YtibmfjacfbpfgaaGreatDoor.Item TreeLaw NameLaw NameWalk NameOrd NameRef NameKeepLaw SortIns NodeRes TreeNodes FillLaw DiffLaw RealLaw DoneLaw KeepLaw RealKeep OpLaw OpKeep DkLaw
abbrev Ax := Int × ByteArray × ByteArray × Nd × Int × Int × Int × Int
def absR (m : Int) (k : Int) : Int := if k.tmod m < 0 then -(k.tmod m) else k.tmod m
def kAct (a : Ax) : Int := absR 11 a.1
theorem absR_le {m : Int} (hm : 0 < m) (k : Int) : 0 ≤ absR m k ∧ absR m k < m := by
 unfold absR;have h1 := Int.tmod_lt_of_pos k hm
 have h2 : -m < k.tmod m := by
  have := Int.tmod_lt_of_pos (-k) hm;rw [Int.neg_tmod] at this;omega
 split <;> omega
def actD (nz : Int → Nd → Nd) (d : Dk) (a : Ax) : Dk :=
 if kAct a < 7 then (opD nz d (kAct a) a.2.1 a.2.2.1 a.2.2.2.1).2
 else if kAct a = 7 then { d with fuse := max a.2.2.2.2.1 (-1) }
 else if kAct a = 8 then { d with fail := max a.2.2.2.2.1 0 }
 else if kAct a = 9 then crashD d a.2.2.2.2.2.1 a.2.2.2.2.2.2.1 a.2.2.2.2.2.2.2
 else d
theorem trees_set {d d1 : Dk} (h : Trees d) (h1 : d1.base = d.base) (h2 : d1.waits = d.waits) : Trees d1 := fun k => by rw [h1, h2]; exact h k
theorem rel_trees {a b : Dk} (h : Rel a b) (ht : Trees a) : Trees b := fun k => by
 rw [← (h.waits.take k).fold, ← h.base]; exact ht k
theorem own_err (nz : Int → Nd → Nd) (d : Dk) (k : Int) (path tp : ByteArray) (n : Nd) : (ownD nz d k path tp n).1 ≠ 0 → (ownD nz d k path tp n).2 = d := by
 show (fun x : Int × Dk => x.1 ≠ 0 → x.2 = d) (ownD nz d k path tp n)
 unfold ownD;simp only
 repeat' split
 all_goals first | exact fun _ => rfl | exact fun h => absurd rfl h
theorem begin_keep (d : Dk) : (beginD d).2.base = d.base ∧ (beginD d).2.waits = d.waits ∧ (beginD d).2.steps = d.steps ∧ (beginD d).2.limit = d.limit := by
 unfold beginD
 repeat' split
 all_goals exact ⟨rfl, rfl, rfl, rfl⟩
theorem op_err {nz : Int → Nd → Nd} {d : Dk} {k : Int} {path tp : ByteArray} {n : Nd} (h : (opD nz d k path tp n).1 ≠ 0) : (opD nz d k path tp n).2.base = d.base ∧ (opD nz d k path tp n).2.waits = d.waits ∧ (opD nz d k path tp n).2.steps = d.steps := by
 have hb := begin_keep d;unfold opD at h ⊢;simp only at h ⊢
 split
 ·
  exact ⟨hb.1, hb.2.1, hb.2.2.1⟩
 rename_i h1;rw [if_neg h1] at h
 split
 ·
  rename_i h2; rw [if_pos h2] at h; exact absurd rfl h
 rename_i h2; rw [own_err nz _ _ _ _ _ h2]; exact ⟨hb.1, hb.2.1, hb.2.2.1⟩
theorem shows_of {d d1 : Dk} (h1 : d1.base = d.base) (h2 : d1.waits = d.waits) : d1.shows = d.shows := by unfold Dk.shows; rw [h1, h2]
theorem op_ok {nz : Int → Nd → Nd} {d : Dk} {k : Int} {path tp : ByteArray} {n : Nd} (h : (opD nz d k path tp n).1 = 0) : (opD nz d k path tp n).2.steps = d.steps + 1 := by
 have hb := begin_keep d;have ho := own_steps nz (beginD d).2 k path tp n;unfold opD at h ⊢;simp only at h ⊢
 split
 ·
  rename_i h1; rw [if_pos h1] at h; exact absurd h h1
 rename_i h1;rw [if_neg h1] at h
 split
 ·
  show (ownD nz (beginD d).2 k path tp n).2.steps + 1 = _
  rw [ho.1, hb.2.2.1]
 rename_i h2; rw [if_neg h2] at h; exact absurd h h2
theorem op_limit (nz : Int → Nd → Nd) (d : Dk) (k : Int) (path tp : ByteArray) (n : Nd) : (opD nz d k path tp n).2.limit = d.limit := by
 have hb := begin_keep d;have ho := own_steps nz (beginD d).2 k path tp n;unfold opD;simp only
 split
 ·
  exact hb.2.2.2
 split
 ·
  show (ownD nz (beginD d).2 k path tp n).2.limit = _
  rw [ho.2.2.2.2, hb.2.2.2]
 rw [ho.2.2.2.2, hb.2.2.2]
theorem act_limit (nz : Int → Nd → Nd) (d : Dk) (x : Ax) : (actD nz d x).limit = d.limit := by
 unfold actD
 split
 ·
  exact op_limit _ _ _ _ _ _
 repeat' split
 all_goals rfl
def FitN (n : Nat) (d : Dk) : Prop := (∀ x ∈ d.base, (dataOf x).size ≤ n) ∧ ∀ c ∈ d.waits, (dataC c).size ≤ n
theorem put_fit {n : Nat} {s : List It} {x : It} (h : ∀ y ∈ s, (dataOf y).size ≤ n) (hx : (dataOf x).size ≤ n) : ∀ y ∈ putP s x, (dataOf y).size ≤ n := fun y hy => by
 rcases put_mem hy with e | ⟨e, _⟩
 ·
  rw [e]; exact hx
 exact h y e
theorem wo_fit {n : Nat} {s : List It} (h : ∀ y ∈ s, (dataOf y).size ≤ n) (p : ByteArray) : ∀ y ∈ woP s p, (dataOf y).size ≤ n := fun y hy => h y (List.mem_filter.1 hy).1
theorem done_fit {n : Nat} {s : List It} {c : Chg} (h : ∀ y ∈ s, (dataOf y).size ≤ n) (hc : (dataC c).size ≤ n) : ∀ y ∈ doneP s c, (dataOf y).size ≤ n := by
 unfold doneP
 split
 ·
  exact put_fit h hc
 split
 ·
  exact h
 rename_i x hf;have hx := h x (find_mem hf).1
 split
 ·
  exact put_fit h hc
 split
 ·
  exact wo_fit h _
 split
 ·
  exact put_fit (wo_fit h _) hx
 exact put_fit h hx
theorem fold_fit {n : Nat} : ∀ (l : List Chg) (s : List It), (∀ y ∈ s, (dataOf y).size ≤ n) → (∀ c ∈ l, (dataC c).size ≤ n) → ∀ y ∈ l.foldl doneP s, (dataOf y).size ≤ n
 | [], s, h, _ => h
 | c :: l, s, h, hl => fold_fit l (doneP s c) (done_fit h (hl c (by simp))) (fun d hd => hl d (by simp [hd]))
theorem FitN.shows {n : Nat} {d : Dk} (h : FitN n d) : ∀ y ∈ d.shows, (dataOf y).size ≤ n := fold_fit _ _ h.1 h.2
theorem wait_fit {n : Nat} {d : Dk} (h : FitN n d) {c : Chg} (hc : (dataC c).size ≤ n) : FitN n (waitD d c) := by
 refine ⟨h.1, fun x hx => ?_⟩
 rcases List.mem_append.1 hx with e | e
 ·
  exact h.2 x e
 rw [List.mem_singleton.1 e]; exact hc
theorem own_fit {nz : Int → Nd → Nd} (hz : ∀ k n, (nz k n).2.2.2.2.2.2.size ≤ n.2.2.2.2.2.2.size) {n : Nat} {d : Dk} (h : FitN n d) (k : Int) (path tp : ByteArray) (nd : Nd) (hn : nd.2.2.2.2.2.2.size ≤ n) : FitN n (ownD nz d k path tp nd).2 := by
 have hw : ∀ (k : Int) (a b : ByteArray), FitN n (waitD d (k, a, b, nz k (nodeM nd), false)) := fun k a b => wait_fit h (Nat.le_trans (hz k (nodeM nd)) hn)
 show (fun x : Int × Dk => FitN n x.2) (ownD nz d k path tp nd)
 unfold ownD;simp only
 repeat' split
 all_goals first | exact h | exact hw _ _ _ | skip
 ·
  exact ⟨h.shows, fun c hc => by cases hc⟩
 refine ⟨h.1, fun c hc => ?_⟩;obtain ⟨c0, hc0, rfl⟩ := List.mem_map.1 hc;have := h.2 c0 hc0;unfold sureC
 split <;> exact this
theorem begin_fit {n : Nat} {d : Dk} (h : FitN n d) : FitN n (beginD d).2 := by
 have hb := begin_keep d;exact ⟨by rw [hb.1]; exact h.1, by rw [hb.2.1]; exact h.2⟩
theorem op_fit {nz : Int → Nd → Nd} (hz : ∀ k n, (nz k n).2.2.2.2.2.2.size ≤ n.2.2.2.2.2.2.size) {n : Nat} {d : Dk} (h : FitN n d) (k : Int) (path tp : ByteArray) (nd : Nd) (hn : nd.2.2.2.2.2.2.size ≤ n) : FitN n (opD nz d k path tp nd).2 := by
 have hb := begin_fit h;have ho := own_fit hz hb k path tp nd hn;unfold opD;simp only
 split
 ·
  exact hb
 split
 ·
  exact ⟨ho.1, ho.2⟩
 exact ho
theorem cut_fit {n : Nat} {c : Chg} (h : (dataC c).size ≤ n) (k : Int) : (dataC (cutC k c)).size ≤ n := by
 show (cutB k (dataC c)).size ≤ _
 unfold cutB;rw [ByteArray.size_extract];omega
theorem crash_go_fit {n : Nat} (mask cut : Int) : ∀ (l : List Chg) (b : Nat) (s : List It), (∀ y ∈ s, (dataOf y).size ≤ n) → (∀ c ∈ l, (dataC c).size ≤ n) → ∀ y ∈ crashGo mask cut b l s, (dataOf y).size ≤ n
 | [], b, s, h, _ => h
 | c :: l, b, s, h, hl => by
  have hc := hl c (by simp);have hl' : ∀ d ∈ l, (dataC d).size ≤ n := fun d hd => hl d (by simp [hd])
  unfold crashGo
  split
  ·
   have hx : (dataC (if b < 64 ∧ mask / 2 ^ b % 2 = 1 then cutC cut c else c)).size ≤ n := by
    split
    ·
     exact cut_fit hc cut
    exact hc
   exact crash_go_fit mask cut l (b + 1) _ (done_fit h hx) hl'
  exact crash_go_fit mask cut l b _ (done_fit h hc) hl'
theorem act_fit {nz : Int → Nd → Nd} (hz : ∀ k n, (nz k n).2.2.2.2.2.2.size ≤ n.2.2.2.2.2.2.size) {n : Nat} {d : Dk} (h : FitN n d) (x : Ax) (hn : x.2.2.2.1.2.2.2.2.2.2.size ≤ n) : FitN n (actD nz d x) := by
 unfold actD
 split
 ·
  exact op_fit hz h _ _ _ _ hn
 split
 ·
  exact ⟨h.1, h.2⟩
 split
 ·
  exact ⟨h.1, h.2⟩
 split
 ·
  exact ⟨crash_go_fit _ _ _ _ _ h.1 (fun c hc => h.2 c (List.mem_of_mem_take hc)), fun c hc => by cases hc⟩
 exact h
theorem sum_fit {n : Nat} {s : List It} (h : ∀ y ∈ s, (dataOf y).size ≤ n) (p : ByteArray) : sumO s p ≤ n * s.length := by
 unfold sumO
 have h1 : ((s.filter (fun x => decide (x.1 ≠ p))).map (fun x => x.2.2.2.2.2.2.2.size)).sum ≤ n * ((s.filter (fun x => decide (x.1 ≠ p))).map (fun x => x.2.2.2.2.2.2.2.size)).length := by
  refine sum_le n _ (fun k hk => ?_);obtain ⟨x, hx, rfl⟩ := List.mem_map.1 hk;exact h x (List.mem_filter.1 hx).1
 rw [List.length_map] at h1;exact Nat.le_trans h1 (Nat.mul_le_mul_left n (List.length_filter_le _ _))
end Go.Proofs.YtibmfjacfbpfgaaGreatDoor.ActLaw
set_option maxRecDepth 100000
namespace Go.Proofs.YtibmfjacfbpfgaaGreatDoor.ItemArgU
open Go.RowKit Go.ChangeShapes Go.WideShapes Go.Deep YtibmfjacfbpfgaaGreatDoorW.PrintWords YtibmfjacfbpfgaaGreatDoor.Item
theorem cStr : Tryz.prog.cellsOf 9 = 1 := by kernel_rfl
theorem cInt : Tryz.prog.cellsOf 3 = 1 := by kernel_rfl
theorem cU32 : Tryz.prog.cellsOf 32 = 1 := by kernel_rfl
theorem cI64 : Tryz.prog.cellsOf 2 = 1 := by kernel_rfl
theorem cNode : Tryz.prog.cellsOf 34 = 7 := by kernel_rfl
section
variable {H : Type} {enc : TypeId × Value → H} {W : World} {sp : Nat → Bool} {base n : Nat} {held : Bool} {cs : List Value} {x : DataW H × List MemPlace}
theorem some_at {α : Type} {xs : List α} {m j : Nat} (h : xs.length = m) (hj : j < m) : ∃ y, xs[j]? = some y := ⟨xs[j], List.getElem?_eq_getElem (by omega)⟩
theorem node_cells (h : DataW.trod enc Tryz.prog W base sp held n 34 cs = some x) :
  ∃ kd mo ui gi mt at_ da, cs = [.int .i64 kd, .int .u32 mo, .int .u32 ui, .int .u32 gi, .int .i64 mt, .int .i64 at_, .string da] ∧ (Lit.int .u32 mo).wf = true := by
 obtain ⟨xs, k, rfl, _, hl, hxl, hf⟩ := DataW.trod_struct Tryz.underlying34 h;rw [cNode] at hl
 match cs, hl with
 | [c0, c1, c2, c3, c4, c5, c6], _ =>
  obtain ⟨y0, hy0⟩ := some_at hxl (show 0 < 7 by decide);have g0 := hf 0 _ rfl;rw [hy0] at g0;have g0 : DataW.trod enc Tryz.prog W base sp held k 3 [c0] = some y0 := by simpa [cStr, cInt, cU32, cI64] using g0
  obtain ⟨a0, e0, _, _⟩ := DataW.trod_int Tryz.underlying3 g0;injection e0 with e0 _
  subst e0;obtain ⟨y1, hy1⟩ := some_at hxl (show 1 < 7 by decide);have g1 := hf 1 _ rfl;rw [hy1] at g1;have g1 : DataW.trod enc Tryz.prog W base sp held k 32 [c1] = some y1 := by simpa [cStr, cInt, cU32, cI64] using g1
  obtain ⟨a1, e1, _, w1⟩ := DataW.trod_int Tryz.underlying32 g1;injection e1 with e1 _
  subst e1;obtain ⟨y2, hy2⟩ := some_at hxl (show 2 < 7 by decide);have g2 := hf 2 _ rfl;rw [hy2] at g2;have g2 : DataW.trod enc Tryz.prog W base sp held k 32 [c2] = some y2 := by simpa [cStr, cInt, cU32, cI64] using g2
  obtain ⟨a2, e2, _, _⟩ := DataW.trod_int Tryz.underlying32 g2;injection e2 with e2 _
  subst e2;obtain ⟨y3, hy3⟩ := some_at hxl (show 3 < 7 by decide);have g3 := hf 3 _ rfl;rw [hy3] at g3;have g3 : DataW.trod enc Tryz.prog W base sp held k 32 [c3] = some y3 := by simpa [cStr, cInt, cU32, cI64] using g3
  obtain ⟨a3, e3, _, _⟩ := DataW.trod_int Tryz.underlying32 g3;injection e3 with e3 _
  subst e3;obtain ⟨y4, hy4⟩ := some_at hxl (show 4 < 7 by decide);have g4 := hf 4 _ rfl;rw [hy4] at g4;have g4 : DataW.trod enc Tryz.prog W base sp held k 2 [c4] = some y4 := by simpa [cStr, cInt, cU32, cI64] using g4
  obtain ⟨a4, e4, _, _⟩ := DataW.trod_int Tryz.underlying2 g4;injection e4 with e4 _
  subst e4;obtain ⟨y5, hy5⟩ := some_at hxl (show 5 < 7 by decide);have g5 := hf 5 _ rfl;rw [hy5] at g5;have g5 : DataW.trod enc Tryz.prog W base sp held k 2 [c5] = some y5 := by simpa [cStr, cInt, cU32, cI64] using g5
  obtain ⟨a5, e5, _, _⟩ := DataW.trod_int Tryz.underlying2 g5;injection e5 with e5 _
  subst e5;obtain ⟨y6, hy6⟩ := some_at hxl (show 6 < 7 by decide);have g6 := hf 6 _ rfl;rw [hy6] at g6;have g6 : DataW.trod enc Tryz.prog W base sp held k 9 [c6] = some y6 := by simpa [cStr, cInt, cU32, cI64] using g6
  obtain ⟨a6, e6, _, _⟩ := DataW.trod_string Tryz.underlying9 g6;injection e6 with e6 _
  subst e6;exact ⟨a0, a1, a2, a3, a4, a5, a6, rfl, w1⟩
end
theorem u32_range {n : Int} (h : (Lit.int .u32 n).wf = true) : 0 ≤ n ∧ n < 4294967296 := by
 have h2 : IntKind.u32.min ≤ n ∧ n ≤ IntKind.u32.max := by simpa [Lit.wf] using h
 have e1 : IntKind.u32.min = 0 := rfl;have e2 : IntKind.u32.max = 4294967295 := rfl;omega
end Go.Proofs.YtibmfjacfbpfgaaGreatDoor.ItemArgU
set_option maxRecDepth 100000
namespace Go.Proofs.YtibmfjacfbpfgaaGreatDoor.Act
open Go.RowKit Go.ChangeShapes Go.WideShapes Go.Deep YtibmfjacfbpfgaaGreatDoorW PrintWords PrintLast PrintMore YtibmfjacfbpfgaaGreatDoor.Item ItemArgU Own NodeRes ActLaw
abbrev axK : Kd Ax := Kd.pair (Kd.int .i64) (Kd.pair Kd.string (Kd.pair Kd.string (Kd.pair nodeK (Kd.pair (Kd.int .i64) (Kd.pair (Kd.int .i64) (Kd.pair (Kd.int .u64) (Kd.int .i64)))))))
abbrev cellsX (x : Ax) : List Value := [.int .i64 x.1, .string x.2.1, .string x.2.2.1, .int .i64 x.2.2.2.1.1, .int .u32 x.2.2.2.1.2.1, .int .u32 x.2.2.2.1.2.2.1, .int .u32 x.2.2.2.1.2.2.2.1, .int .i64 x.2.2.2.1.2.2.2.2.1, .int .i64 x.2.2.2.1.2.2.2.2.2.1, .string x.2.2.2.1.2.2.2.2.2.2, .int .i64 x.2.2.2.2.1, .int .i64 x.2.2.2.2.2.1, .int .u64 x.2.2.2.2.2.2.1, .int .i64 x.2.2.2.2.2.2.2]
abbrev AxC (w : World) (A : Option Addr) (l : List Ax) : Prop := axK.C w A l.length l
theorem axK_K {w : World} {x : Ax} {cs : List Value} (h : axK.K w x cs) : cs = cellsX x := by
 obtain ⟨a0, r0, rfl, h0, a1, r1, rfl, h1, a2, r2, rfl, h2, rn, r3, rfl, ⟨a3, s3, rfl, h3, a4, s4, rfl, h4, a5, s5, rfl, h5, a6, s6, rfl, h6, a7, s7, rfl, h7, a8, a9, rfl, h8, h9⟩, a10, r10, rfl, h10, a11, r11, rfl, h11, a12, a13, rfl, h12, h13⟩ := h;have e0 : a0 = [Value.int .i64 x.1] := h0;have e1 : a1 = [Value.string x.2.1] := h1;have e2 : a2 = [Value.string x.2.2.1] := h2;have e3 : a3 = [Value.int .i64 x.2.2.2.1.1] := h3;have e4 : a4 = [Value.int .u32 x.2.2.2.1.2.1] := h4;have e5 : a5 = [Value.int .u32 x.2.2.2.1.2.2.1] := h5;have e6 : a6 = [Value.int .u32 x.2.2.2.1.2.2.2.1] := h6;have e7 : a7 = [Value.int .i64 x.2.2.2.1.2.2.2.2.1] := h7;have e8 : a8 = [Value.int .i64 x.2.2.2.1.2.2.2.2.2.1] := h8;have e9 : a9 = [Value.string x.2.2.2.1.2.2.2.2.2.2] := h9;have e10 : a10 = [Value.int .i64 x.2.2.2.2.1] := h10;have e11 : a11 = [Value.int .i64 x.2.2.2.2.2.1] := h11;have e12 : a12 = [Value.int .u64 x.2.2.2.2.2.2.1] := h12;have e13 : a13 = [Value.int .i64 x.2.2.2.2.2.2.2] := h13;subst e0 e1 e2 e3 e4 e5 e6 e7 e8 e9 e10 e11 e12 e13;rfl
theorem axK_M (w : World) (base : Nat) (ok : Nat → Prop) (x : Ax) : axK.M w base ok x (cellsX x) :=
 ⟨[_], _, rfl, rfl, [_], _, rfl, rfl, [_], _, rfl, rfl, [.int .i64 x.2.2.2.1.1, .int .u32 x.2.2.2.1.2.1, .int .u32 x.2.2.2.1.2.2.1, .int .u32 x.2.2.2.1.2.2.2.1, .int .i64 x.2.2.2.1.2.2.2.2.1, .int .i64 x.2.2.2.1.2.2.2.2.2.1, .string x.2.2.2.1.2.2.2.2.2.2], [.int .i64 x.2.2.2.2.1, .int .i64 x.2.2.2.2.2.1, .int .u64 x.2.2.2.2.2.2.1, .int .i64 x.2.2.2.2.2.2.2], rfl,
  ⟨[_], _, rfl, rfl, [_], _, rfl, rfl, [_], _, rfl, rfl, [_], _, rfl, rfl, [_], _, rfl, rfl, [_], [_], rfl, rfl, rfl⟩, [_], _, rfl, rfl, [_], _, rfl, rfl, [_], [_], rfl, rfl, rfl⟩
theorem axK_mk (w : World) (x : Ax) : axK.K w x (cellsX x) := axK.K_of_M (axK_M w 0 (fun _ => True) x)
theorem ax_at {w : World} {A : Option Addr} {l : List Ax} (h : AxC w A l) {k : Nat} (hk : k < l.length) : ∃ ad, A = some ad ∧ ∀ j u, (cellsX l[k])[j]? = some u → w.cell? ((ad.add (k * 14)).add j) = some u := by
 obtain ⟨ad, e, hc⟩ := h.2.2 (by omega);obtain ⟨cs, hl, hK, hcell⟩ := hc k _ (List.getElem?_eq_getElem hk);have := axK_K hK;subst this;refine ⟨ad, e, fun j u hu => ?_⟩;have h := hcell j u hu;rw [← Addr.add_add] at h;exact h
structure FitX (x : Ax) : Prop where
 mode : 0 ≤ x.2.2.2.1.2.1
 num : x.2.2.2.2.1 ≤ 9223372036854775807
 mask : 0 ≤ x.2.2.2.2.2.2.1 ∧ x.2.2.2.2.2.2.1 < 2 ^ 64
theorem cCrash : Tryz.prog.cellsOf 25 = 3 := by kernel_rfl
theorem cAct : Tryz.prog.cellsOf 36 = 14 := by kernel_rfl
theorem cU64 : Tryz.prog.cellsOf 23 = 1 := by kernel_rfl
theorem i64_top {n : Int} (h : (Lit.int .i64 n).wf = true) : n ≤ 9223372036854775807 := by
 have h2 : IntKind.i64.min ≤ n ∧ n ≤ IntKind.i64.max := by simpa [Lit.wf] using h
 have e2 : IntKind.i64.max = 9223372036854775807 := rfl;omega
theorem u64_range {n : Int} (h : (Lit.int .u64 n).wf = true) : 0 ≤ n ∧ n < 2 ^ 64 := by
 have h2 : IntKind.u64.min ≤ n ∧ n ≤ IntKind.u64.max := by simpa [Lit.wf] using h
 have e1 : IntKind.u64.min = 0 := rfl;have e2 : IntKind.u64.max = 18446744073709551615 := rfl;omega
section
variable {H : Type} {enc : TypeId × Value → H} {W : World} {sp : Nat → Bool} {base n : Nat} {held : Bool} {cs : List Value} {x : DataW H × List MemPlace}
theorem crash_cells (h : DataW.trod enc Tryz.prog W base sp held n 25 cs = some x) : ∃ kp mk ct, cs = [.int .i64 kp, .int .u64 mk, .int .i64 ct] ∧ (Lit.int .u64 mk).wf = true := by
 obtain ⟨xs, k, rfl, _, hl, hxl, hf⟩ := DataW.trod_struct Tryz.underlying25 h;rw [cCrash] at hl
 match cs, hl with
 | [c0, c1, c2], _ =>
  obtain ⟨y0, hy0⟩ := some_at hxl (show 0 < 3 by decide);have g0 := hf 0 _ rfl;rw [hy0] at g0;have g0 : DataW.trod enc Tryz.prog W base sp held k 3 [c0] = some y0 := by simpa [cStr, cInt, cU32, cI64, cU64, cNode, cCrash] using g0
  obtain ⟨a0, e0, _, _⟩ := DataW.trod_int Tryz.underlying3 g0;injection e0 with e0 _
  subst e0;obtain ⟨y1, hy1⟩ := some_at hxl (show 1 < 3 by decide);have g1 := hf 1 _ rfl;rw [hy1] at g1;have g1 : DataW.trod enc Tryz.prog W base sp held k 23 [c1] = some y1 := by simpa [cStr, cInt, cU32, cI64, cU64, cNode, cCrash] using g1
  obtain ⟨a1, e1, _, w1⟩ := DataW.trod_int Tryz.underlying23 g1;injection e1 with e1 _
  subst e1;obtain ⟨y2, hy2⟩ := some_at hxl (show 2 < 3 by decide);have g2 := hf 2 _ rfl;rw [hy2] at g2;have g2 : DataW.trod enc Tryz.prog W base sp held k 3 [c2] = some y2 := by simpa [cStr, cInt, cU32, cI64, cU64, cNode, cCrash] using g2
  obtain ⟨a2, e2, _, _⟩ := DataW.trod_int Tryz.underlying3 g2;injection e2 with e2 _
  subst e2;exact ⟨a0, a1, a2, rfl, w1⟩
theorem act_cells (h : DataW.trod enc Tryz.prog W base sp held n 36 cs = some x) : ∃ y : Ax, cs = cellsX y ∧ FitX y := by
 obtain ⟨xs, k, rfl, _, hl, hxl, hf⟩ := DataW.trod_struct Tryz.underlying36 h;rw [cAct] at hl
 match cs, hl with
 | [c0, c1, c2, c3, c4, c5, c6, c7, c8, c9, c10, c11, c12, c13], _ =>
  obtain ⟨y0, hy0⟩ := some_at hxl (show 0 < 6 by decide);have g0 := hf 0 _ rfl;rw [hy0] at g0;have g0 : DataW.trod enc Tryz.prog W base sp held k 3 [c0] = some y0 := by simpa [cStr, cInt, cU32, cI64, cU64, cNode, cCrash] using g0
  obtain ⟨a0, e0, _, _⟩ := DataW.trod_int Tryz.underlying3 g0;injection e0 with e0 _
  subst e0;obtain ⟨y1, hy1⟩ := some_at hxl (show 1 < 6 by decide);have g1 := hf 1 _ rfl;rw [hy1] at g1;have g1 : DataW.trod enc Tryz.prog W base sp held k 9 [c1] = some y1 := by simpa [cStr, cInt, cU32, cI64, cU64, cNode, cCrash] using g1
  obtain ⟨a1, e1, _, _⟩ := DataW.trod_string Tryz.underlying9 g1;injection e1 with e1 _
  subst e1;obtain ⟨y2, hy2⟩ := some_at hxl (show 2 < 6 by decide);have g2 := hf 2 _ rfl;rw [hy2] at g2;have g2 : DataW.trod enc Tryz.prog W base sp held k 9 [c2] = some y2 := by simpa [cStr, cInt, cU32, cI64, cU64, cNode, cCrash] using g2
  obtain ⟨a2, e2, _, _⟩ := DataW.trod_string Tryz.underlying9 g2;injection e2 with e2 _
  subst e2;obtain ⟨y3, hy3⟩ := some_at hxl (show 3 < 6 by decide);have g3 := hf 3 _ rfl;rw [hy3] at g3;have g3 : DataW.trod enc Tryz.prog W base sp held k 34 [c3, c4, c5, c6, c7, c8, c9] = some y3 := by simpa [cStr, cInt, cU32, cI64, cU64, cNode, cCrash] using g3
  obtain ⟨kd, mo, ui, gi, mt, at_, da, e3, w3⟩ := node_cells g3;simp only [List.cons.injEq] at e3;obtain ⟨rfl, rfl, rfl, rfl, rfl, rfl, rfl, _⟩ := e3;obtain ⟨y4, hy4⟩ := some_at hxl (show 4 < 6 by decide);have g4 := hf 4 _ rfl;rw [hy4] at g4;have g4 : DataW.trod enc Tryz.prog W base sp held k 3 [c10] = some y4 := by simpa [cStr, cInt, cU32, cI64, cU64, cNode, cCrash] using g4
  obtain ⟨a4, e4, _, w4⟩ := DataW.trod_int Tryz.underlying3 g4;injection e4 with e4 _
  subst e4;obtain ⟨y5, hy5⟩ := some_at hxl (show 5 < 6 by decide);have g5 := hf 5 _ rfl;rw [hy5] at g5;have g5 : DataW.trod enc Tryz.prog W base sp held k 25 [c11, c12, c13] = some y5 := by simpa [cStr, cInt, cU32, cI64, cU64, cNode, cCrash] using g5
  obtain ⟨kp, mk, ct, e5, w5⟩ := crash_cells g5;simp only [List.cons.injEq] at e5;obtain ⟨rfl, rfl, rfl, _⟩ := e5;exact ⟨(a0, a1, a2, (kd, mo, ui, gi, mt, at_, da), a4, kp, mk, ct), rfl, ⟨(u32_range w3).1, i64_top w4, u64_range w5⟩⟩
end
theorem choose_axs {p : Nat → Ax → Prop} {m : Nat} (h : ∀ i, i < m → ∃ y, p i y) : ∃ l : List Ax, l.length = m ∧ ∀ i (hi : i < l.length), p i l[i] := by
 induction m with
 | zero => exact ⟨[], rfl, fun i hi => absurd hi (by simp)⟩
 | succ m ih =>
  obtain ⟨l, hl, hp⟩ := ih (fun i hi => h i (by omega));obtain ⟨y, hy⟩ := h m (by omega);refine ⟨l ++ [y], by simp [hl], fun i hi => ?_⟩
  by_cases hi2 : i < l.length
  ·
   rw [List.getElem_append_left hi2]; exact hp i hi2
  have : i = l.length := by simp at hi; omega
  subst this
  simpa [hl] using hy
theorem open_axs {H : Type} {enc : TypeId × Value → H} {W : World} {v : Value} {d : DataW H} {p : List MemPlace} {b : Nat} (hval : Value.okWide Tryz.prog W .any b 22 v)
  (h : DataW.Trod enc Tryz.prog W 0 (fun _ => true) true 22 v d p) : ∃ A c l, v = .slice A l.length c ∧ AxC W A l ∧ ∀ x ∈ l, FitX x := by
 obtain ⟨a0, len, cap, rfl⟩ := okWide_slice Tryz.underlying22 hval;obtain ⟨fuel, hf⟩ := h
 rcases open_slice Tryz.underlying22 hf with ⟨hcs, _⟩ | ⟨a, len', cap', m, n, D, Pl, hcs, _, hl, hm, hmm, _, hel⟩
 ·
  simp [Value.cells] at hcs;obtain ⟨rfl, rfl, rfl⟩ := hcs;exact ⟨none, 0, [], rfl, ⟨rfl, by simp, fun h => absurd h (by simp)⟩, fun x hx => by cases hx⟩
 simp [Value.cells] at hcs;obtain ⟨rfl, rfl, rfl⟩ := hcs;simp only [if_true] at hmm;have hm' : cap ≤ 9223372036854775807 := hm
 obtain ⟨l, hll, hp⟩ := choose_axs (m := len) (p := fun i y => (∀ j u, (cellsX y)[j]? = some u → W.cell? (a.add (i * 14 + j)) = some u) ∧ FitX y) (fun i hi => by
  obtain ⟨cs', h1, h2⟩ := hel i (by omega);obtain ⟨y, rfl, w1⟩ := act_cells h2;rw [cAct] at h1;obtain ⟨_, _, hcell⟩ := World.cells?_some h1;refine ⟨y, fun j u hu => ?_, w1⟩;have hj : j < 14 := (List.getElem?_eq_some_iff.1 hu).1;have h3 := hcell j hj;rw [Addr.add_add] at h3
  rw [h3, ← hu])
 refine ⟨some a, cap, l, by rw [hll], ⟨rfl, by omega, fun hn => ⟨a, rfl, fun j y hj => ?_⟩⟩, fun x hx => by obtain ⟨i, hi, rfl⟩ := List.mem_iff_getElem.1 hx; exact (hp i hi).2⟩;obtain ⟨hjl, hjy⟩ := List.getElem?_eq_some_iff.1 hj;subst hjy;exact ⟨cellsX l[j], rfl, axK_mk _ _, fun i u hu => (hp j hjl).1 i u hu⟩
theorem open_act {H : Type} {enc : TypeId × Value → H} {W : World} {v : Value} {d : DataW H} {p : List MemPlace} {b : Nat} (hval : Value.okWide Tryz.prog W .any b 36 v)
  (h : DataW.Trod enc Tryz.prog W 0 (fun _ => true) true 36 v d p) : ∃ y : Ax, v = .agg (cellsX y).toArray ∧ FitX y := by
 obtain ⟨cs, rfl, _⟩ := okWide_struct Tryz.underlying36 hval;obtain ⟨fuel, hf⟩ := h;obtain ⟨y, e, w⟩ := act_cells hf;exact ⟨y, congrArg Value.agg (Array.ext' (by simpa [Value.cells] using e)), w⟩
theorem open_crash {H : Type} {enc : TypeId × Value → H} {W : World} {v : Value} {d : DataW H} {p : List MemPlace} {b : Nat} (hval : Value.okWide Tryz.prog W .any b 25 v)
  (h : DataW.Trod enc Tryz.prog W 0 (fun _ => true) true 25 v d p) : ∃ kp mk ct, v = .agg #[.int .i64 kp, .int .u64 mk, .int .i64 ct] ∧ 0 ≤ mk ∧ mk < 2 ^ 64 := by
 obtain ⟨cs, rfl, _⟩ := okWide_struct Tryz.underlying25 hval;obtain ⟨fuel, hf⟩ := h;obtain ⟨kp, mk, ct, e, w⟩ := crash_cells hf;exact ⟨kp, mk, ct, congrArg Value.agg (Array.ext' (by simpa [Value.cells] using e)), u64_range w⟩
end Go.Proofs.YtibmfjacfbpfgaaGreatDoor.Act
namespace Go.Proofs.YtibmfjacfbpfgaaGreatDoor.Light
open Go.RowKit YtibmfjacfbpfgaaGreatDoorW PrintWords PrintLast PrintMore NameLaw NameWalk NameUse YtibmfjacfbpfgaaGreatDoor.Item Own NodeRes SortIns ActLaw YtibmfjacfbpfgaaGreatDoor.Act
def OkX (n : Nat) (most : Int) (x : Ax) : Prop := (n : Int) ≤ most ∧ x.2.1.size ≤ 1000 ∧ x.2.2.1.size ≤ 1000 ∧ x.2.2.2.1.2.2.2.2.2.2.size ≤ 1000
def LightPost (W : World) (l : List Ax) (most : Int) (e : Ending) (w' : World) : Prop := ∃ r : Bool, e = .returned (.bool r) ∧ (r = true → ∀ x ∈ l, OkX l.length most x) ∧ Below W.heap.size W w'
theorem step_all {p : Ax → Prop} {l : List Ax} {k : Nat} (hk : k < l.length) (h : ∀ (j : Nat) (hj : j < l.length), j < k → p l[j]) (h1 : p l[k]) : ∀ (j : Nat) (hj : j < l.length), j < k + 1 → p l[j] := fun j hj hjk => by
 rcases Nat.lt_or_ge j k with e | e
 ·
  exact h j hj e
 have e2 : j = k := by omega
 subst e2; exact h1
set_option maxHeartbeats 8000000 in
set_option maxRecDepth 100000 in
theorem light_any (l : List Ax) (A : Option Addr) (c : Nat) (most : Int) (W : World) (hl : AxC W A l) :
  Calls Tryz.prog 9 #[.slice A l.length c, .int .i64 most] W (LightPost W l most) := by
 have HL := Hi hl;have l1 := hl.2.1;clear hl;have HB0 := Hi (Below.refl W.heap.size W);have HK0 : Hid (∀ (j : Nat) (hj : j < l.length), j < 0 → OkX l.length most l[j]) := Hi (fun j hj h => absurd h (by omega));go_enter Tryz.func9, Tryz.ntmps9;go_wp2
 go_loopw [9] (fun i wr => ∃ k : Nat, k ≤ l.length ∧ i = .int .i64 k ∧ Hid (∀ (j : Nat) (hj : j < l.length), j < k → OkX l.length most l[j]) ∧ Hid (Below W.heap.size W wr)) (fun i _ => l.length - (intOf i).toNat)
 case atStart => exact ⟨0, Nat.zero_le _, rfl, HK0, HB0⟩
 clear HK0 HB0;obtain ⟨k, hk, rfl, HK, HB⟩ := hrel
 by_cases hlt : k < l.length
 ·
  have hltI : (k : Int) < (l.length : Int) := by omega
  obtain ⟨ad, hA, hget⟩ := ax_at (Kd.C_below HL.out HB.out) hlt;subst hA;have HX := Hi (show l[k] = l[k] from rfl);have HKN := Hi (step_all (p := OkX l.length most) hlt HK.out);clear HX HK;generalize l[k] = x at hget HKN;obtain ⟨dk, pa, tp, ⟨kd, mo, ui, gi, mt, at_, da⟩, num, kp, mk, ct⟩ := x;have e0 : wr.cell? (ad.add (k * 14)) = some (.int .i64 dk) := hget 0 _ rfl;have e1 : wr.cell? ⟨(ad.add (k * 14)).block, (ad.add (k * 14)).off + 1, none⟩ = some (.string pa) := hget 1 _ rfl;have e2 : wr.cell? ⟨(ad.add (k * 14)).block, (ad.add (k * 14)).off + 2, none⟩ = some (.string tp) := hget 2 _ rfl;have e3 : wr.cell? ⟨(ad.add (k * 14)).block, (ad.add (k * 14)).off + 3, none⟩ = some (.int .i64 kd) := hget 3 _ rfl;have e4 : wr.cell? ⟨(ad.add (k * 14)).block, (ad.add (k * 14)).off + 4, none⟩ = some (.int .u32 mo) := hget 4 _ rfl;have e5 : wr.cell? ⟨(ad.add (k * 14)).block, (ad.add (k * 14)).off + 5, none⟩ = some (.int .u32 ui) := hget 5 _ rfl;have e6 : wr.cell? ⟨(ad.add (k * 14)).block, (ad.add (k * 14)).off + 6, none⟩ = some (.int .u32 gi) := hget 6 _ rfl;have e7 : wr.cell? ⟨(ad.add (k * 14)).block, (ad.add (k * 14)).off + 7, none⟩ = some (.int .i64 mt) := hget 7 _ rfl;have e8 : wr.cell? ⟨(ad.add (k * 14)).block, (ad.add (k * 14)).off + 8, none⟩ = some (.int .i64 at_) := hget 8 _ rfl;have e9 : wr.cell? ⟨(ad.add (k * 14)).block, (ad.add (k * 14)).off + 9, none⟩ = some (.string da) := hget 9 _ rfl;have e10 : wr.cell? ⟨(ad.add (k * 14)).block, (ad.add (k * 14)).off + 10, none⟩ = some (.int .i64 num) := hget 10 _ rfl;have e11 : wr.cell? ⟨(ad.add (k * 14)).block, (ad.add (k * 14)).off + 11, none⟩ = some (.int .i64 kp) := hget 11 _ rfl;have e12 : wr.cell? ⟨(ad.add (k * 14)).block, (ad.add (k * 14)).off + 12, none⟩ = some (.int .u64 mk) := hget 12 _ rfl;have e13 : wr.cell? ⟨(ad.add (k * 14)).block, (ad.add (k * 14)).off + 13, none⟩ = some (.int .i64 ct) := hget 13 _ rfl;clear hget;have HBX := Hi (below_next HB.out (below_one wr (.cells #[.int .i64 dk, .string pa, .string tp, .int .i64 kd, .int .u32 mo, .int .u32 ui, .int .u32 gi, .int .i64 mt, .int .i64 at_, .string da, .int .i64 num, .int .i64 kp, .int .u64 mk, .int .i64 ct] 36)));clear HB
  by_cases q0 : most < (l.length : Int)
  ·
   have q0' := q0;go_wp2;go_ret
   first | exact ⟨false, rfl, fun e => absurd e (by decide), HBX.out⟩ | exact ⟨rfl, HBX.out⟩
  have q0' : ¬ most < (l.length : Int) := q0
  by_cases q1 : 1000 < pa.size
  ·
   have q1' : (1000 : Int) < (pa.size : Int) := by omega
   go_wp2;go_ret
   first | exact ⟨false, rfl, fun e => absurd e (by decide), HBX.out⟩ | exact ⟨rfl, HBX.out⟩
  have q1' : ¬ (1000 : Int) < (pa.size : Int) := by omega
  by_cases q2 : 1000 < tp.size
  ·
   have q2' : (1000 : Int) < (tp.size : Int) := by omega
   go_wp2;go_ret
   first | exact ⟨false, rfl, fun e => absurd e (by decide), HBX.out⟩ | exact ⟨rfl, HBX.out⟩
  have q2' : ¬ (1000 : Int) < (tp.size : Int) := by omega
  by_cases q3 : 1000 < da.size
  ·
   have q3' : (1000 : Int) < (da.size : Int) := by omega
   go_wp2;go_ret
   first | exact ⟨false, rfl, fun e => absurd e (by decide), HBX.out⟩ | exact ⟨rfl, HBX.out⟩
  have q3' : ¬ (1000 : Int) < (da.size : Int) := by omega
  have HOK := Hi (HKN.out ⟨by omega, by show pa.size ≤ 1000; omega, by show tp.size ≤ 1000; omega, by show da.size ≤ 1000; omega⟩);clear HKN;go_wp2;go_roundw
  case rel => exact ⟨k + 1, by omega, by go_num, HOK, HBX⟩
  case measure => simp [intOf]; omega
 have hj2 : ¬ (k : Int) < (l.length : Int) := by omega
 go_wp2;go_ret;exact ⟨true, rfl, fun _ x hx => by obtain ⟨j, hj, rfl⟩ := List.mem_iff_getElem.1 hx; exact HK.out j hj (by omega), HB.out⟩
end Go.Proofs.YtibmfjacfbpfgaaGreatDoor.Light
