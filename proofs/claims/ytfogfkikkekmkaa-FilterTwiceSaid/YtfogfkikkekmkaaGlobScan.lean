/- glob: a pattern that is being read: its runes, one by one. -/
import Derived.Test.YtfogfkikkekmkaaWWords
import Derived.Test.YtfogfkikkekmkaaWLast
import Derived.Test.YtfogfkikkekmkaaProg
import Derived.WalkKit
import Derived.WalkLawsBesides
import Derived.Lib.Hide
import Derived.Deep.QuietTactic
import Derived.Deep.LoopGhost
import Derived.BigQuiet
set_option linter.unusedVariables false
set_option linter.unusedSimpArgs false
namespace Go.Proofs.Ytfogfkikkekmkaa.GlobScan
open Go.RowKit Go.Proofs.YtfogfkikkekmkaaW.PrintWords Go.Proofs.YtfogfkikkekmkaaW.PrintLast

/-- What is left of a pattern: runes in a row that is not block b. -/
def Apart (w : World) (b g : Nat) : Prop := g ≠ b ∧ ∃ cells, w.heap[g]? = some (.cells cells 21 (0, 0))
def LeftAt (w : World) (b : Nat) (v : Value) (l : List Int) : Prop :=
  ∃ A c, v = .slice A l.length c ∧ l.length ≤ c ∧ c ≤ 9223372036854775807 ∧ (0 < l.length → ∃ g o, A = some ⟨g, o, none⟩ ∧ Apart w b g ∧ ∀ j (h : j < l.length), w.cell? ⟨g, o + j, none⟩ = some (.int .i32 l[j]))
def ScanAt (w : World) (b : Nat) (l : List Int) (bad : Bool) : Prop := ∃ v, w.heap[b]? = some (.cells #[v, .bool bad] 56 (0, 0)) ∧ LeftAt w b v l
theorem cell_ne {w : World} {b g o : Nat} (h : g ≠ b) (j : Nat) (u : Value) : (w.setCell ⟨b, j, none⟩ u).cell? ⟨g, o, none⟩ = w.cell? ⟨g, o, none⟩ :=
  World.cell?_of_block (a := ⟨g, o, none⟩) (Below.heap_setCell w ⟨b, j, none⟩ u g h)
theorem LeftAt.set {w : World} {b : Nat} {v : Value} {l : List Int} (h : LeftAt w b v l) (j : Nat) (u : Value) : LeftAt (w.setCell ⟨b, j, none⟩ u) b v l := by
  obtain ⟨A, c, h1, h2, h3, h4⟩ := h
  refine ⟨A, c, h1, h2, h3, fun hn => ?_⟩
  obtain ⟨g, o, e, hg, hc⟩ := h4 hn
  exact ⟨g, o, e, ⟨hg.1, by obtain ⟨cells, hcl⟩ := hg.2; exact ⟨cells, (Below.heap_setCell w ⟨b, _, none⟩ u g hg.1).trans hcl⟩⟩, fun j hj => by rw [cell_ne hg.1]; exact hc j hj⟩
theorem set_grown (w : World) (b j : Nat) (u : Value) : w.grownBy (w.setCell ⟨b, j, none⟩ u) (some b) :=
  ⟨rfl, rfl, rfl, by simp [World.setCell], fun k _ hk => Below.heap_setCell _ _ _ _ (fun e => hk (by rw [e]))⟩
theorem set_heap0 {w : World} {b : Nat} {x y u : Value} {t : TypeId} (h : w.heap[b]? = some (.cells #[x, y] t (0, 0))) : (w.setCell ⟨b, 0, none⟩ u).heap[b]? = some (.cells #[u, y] t (0, 0)) := by
  simp [World.setCell, Array.getElem?_modify, h]
theorem set_heap1 {w : World} {b : Nat} {x y u : Value} {t : TypeId} (h : w.heap[b]? = some (.cells #[x, y] t (0, 0))) : (w.setCell ⟨b, 1, none⟩ u).heap[b]? = some (.cells #[x, u] t (0, 0)) := by
  simp [World.setCell, Array.getElem?_modify, h]
theorem cell_of {w : World} {b : Nat} {cs : Array Value} {t : TypeId} {fr : Nat × Nat} (hb : w.heap[b]? = some (.cells cs t fr)) (j : Nat) : w.cell? ⟨b, j, none⟩ = cs[j]? := by
  simp [World.cell?, hb]
theorem frozen_of {w : World} {b : Nat} {cs : Array Value} {t : TypeId} (hb : w.heap[b]? = some (.cells cs t (0, 0))) (j : Nat) : w.frozen? ⟨b, j, none⟩ = false := by
  simp [World.frozen?, hb]
set_option maxHeartbeats 1000000 in
theorem next_nil (b : Nat) (bad : Bool) (w : World) (h : ScanAt w b [] bad) :
    Calls Try.prog 17 #[.pointer (some ⟨b, 0, none⟩)] w fun e w' => e = .returned (.int .i32 0) ∧ ScanAt w' b [] true ∧ w.grownBy w' (some b) := by
  obtain ⟨v, hb, hl⟩ := h
  have HL := Lib.hid hl
  obtain ⟨A, c, rfl, -, -, -⟩ := hl
  have c0 : w.cell? ⟨b, 0, none⟩ = some (.slice A 0 c) := by rw [cell_of hb]; rfl
  have c1 : w.cell? ⟨b, 1, none⟩ = some (.bool bad) := by rw [cell_of hb]; rfl
  have f1 : w.frozen? ⟨b, 1, none⟩ = false := frozen_of hb 1
  have HB := Lib.hid hb
  clear hb
  go_enter Try.func17, Try.ntmps17
  go_wp2
  go_ret
  exact ⟨rfl, ⟨_, set_heap1 HB.out, HL.out.set _ _⟩, set_grown _ _ _ _⟩
theorem LeftAt.tail {w : World} {b g o c : Nat} {r : Int} {t : List Int} (hc : (r :: t).length ≤ c) (h3 : c ≤ 9223372036854775807) (hg : Apart w b g) (hcell : ∀ j (h : j < (r :: t).length), w.cell? ⟨g, o + j, none⟩ = some (.int .i32 (r :: t)[j])) :
    LeftAt w b (.slice (some ⟨g, o + 1, none⟩) t.length (c - 1)) t :=
  ⟨_, _, rfl, by simp at hc; omega, by omega, fun _ => ⟨g, o + 1, rfl, hg, fun j hj => by
    have := hcell (j + 1) (by simp; omega)
    rw [show o + 1 + j = o + (j + 1) by omega]
    simpa using this⟩⟩
set_option maxHeartbeats 1000000 in
theorem next_cons (b : Nat) (r : Int) (t : List Int) (bad : Bool) (w : World) (h : ScanAt w b (r :: t) bad) :
    Calls Try.prog 17 #[.pointer (some ⟨b, 0, none⟩)] w fun e w' => e = .returned (.int .i32 r) ∧ ScanAt w' b t bad ∧ w.grownBy w' (some b) := by
  obtain ⟨v, hb, A, c, rfl, hlc, hc62, h4⟩ := h
  obtain ⟨g, o, rfl, hg, hcell⟩ := h4 (by simp)
  have c0 : w.cell? ⟨b, 0, none⟩ = some (.slice (some ⟨g, o, none⟩) (r :: t).length c) := by rw [cell_of hb]; rfl
  have f0 : w.frozen? ⟨b, 0, none⟩ = false := frozen_of hb 0
  have hr : w.cell? ⟨g, o, none⟩ = some (.int .i32 r) := hcell 0 (by simp)
  have HB := Lib.hid hb
  have HT := Lib.hid (LeftAt.tail hlc hc62 hg hcell)
  clear hg
  obtain ⟨n, hn⟩ : ∃ n, n = t.length := ⟨_, rfl⟩
  have hlen : (r :: t).length = n + 1 := by rw [hn]; rfl
  rw [hlen] at c0 hlc
  rw [← hn] at HT
  have hn0 : n = t.length := hn
  clear hb hcell hn h4 hlen
  have HN := Lib.hid (show n = 0 → LeftAt w b (.slice (some ⟨g, o, none⟩) n 0) t from fun hz => by
    have ht : t.length = 0 := by rw [← hn0, hz]
    have : t = [] := List.eq_nil_of_length_eq_zero ht
    subst this
    rw [hz]
    exact ⟨_, _, rfl, by simp, by omega, fun h => absurd h (by simp)⟩)
  clear hn0
  go_enter Try.func17, Try.ntmps17
  go_wp2
  · go_ret
    exact ⟨rfl, ⟨_, set_heap0 HB.out, (HN.out (by omega)).set _ _⟩, set_grown _ _ _ _⟩
  · go_ret
    exact ⟨rfl, ⟨_, set_heap0 HB.out, HT.out.set _ _⟩, set_grown _ _ _ _⟩
def headD (l : List Int) : Int := l.headD 0
/-- One rune; none is left: bad. -/
theorem next_any (b : Nat) (l : List Int) (bad : Bool) (w : World) (h : ScanAt w b l bad) :
    Calls Try.prog 17 #[.pointer (some ⟨b, 0, none⟩)] w fun e w' => e = .returned (.int .i32 (headD l)) ∧ ScanAt w' b l.tail (bad || l.isEmpty) ∧ w.grownBy w' (some b) := by
  cases l with
  | nil => rw [show (bad || ([] : List Int).isEmpty) = true by simp]; exact next_nil b bad w h
  | cons r t => rw [show (bad || (r :: t).isEmpty) = bad by simp]; exact next_cons b r t bad w h
def seesL (l : List Int) (r : Int) : Bool := l.head? == some r
set_option maxHeartbeats 1000000 in
theorem sees_any (b : Nat) (l : List Int) (bad : Bool) (r : Int) (w : World) (h : ScanAt w b l bad) :
    Calls Try.prog 22 #[.pointer (some ⟨b, 0, none⟩), .int .i32 r] w fun e w' => e = .returned (.bool (seesL l r)) ∧ Drawn0 w w' := by
  obtain ⟨v, hb, A, c, rfl, hlc, hc62, h4⟩ := h
  have c0 : w.cell? ⟨b, 0, none⟩ = some (.slice A l.length c) := by rw [cell_of hb]; rfl
  clear hb
  cases l with
  | nil =>
    have c0' : w.cell? ⟨b, 0, none⟩ = some (.slice A 0 c) := c0
    clear c0 h4 hlc
    have HS := Lib.hid (show seesL [] r = false from rfl)
    go_enter Try.func22, Try.ntmps22
    go_wp2
    go_ret
    exact ⟨by rw [HS.out]; rfl, by repeat (first | exact Drawn0.refl _ | apply Drawn0.step)⟩
  | cons x t =>
    obtain ⟨g, o, rfl, -, hcell⟩ := h4 (by simp)
    have hr : w.cell? ⟨g, o, none⟩ = some (.int .i32 x) := hcell 0 (by simp)
    have HS := Lib.hid (show seesL (x :: t) r = (x == r) by unfold seesL; simp)
    obtain ⟨n, hn⟩ : ∃ n, n = t.length := ⟨_, rfl⟩
    have hlen : (x :: t).length = n + 1 := by rw [hn]; rfl
    rw [hlen] at c0 hlc
    clear hn hcell h4 hlen
    go_enter Try.func22, Try.ntmps22
    go_wp2
    go_ret
    exact ⟨by rw [HS.out]; rfl, by repeat (first | exact Drawn0.refl _ | apply Drawn0.step)⟩
def nextS (s : List Int × Bool) : List Int × Bool := (s.1.tail, s.2 || s.1.isEmpty)
def plainS (s : List Int × Bool) : List Int × Bool := if seesL s.1 92 then nextS (nextS s) else nextS s
def plainR (l : List Int) : Int := if seesL l 92 then headD l.tail else headD l
theorem ScanAt.drewN {w : World} {b : Nat} {l : List Int} {bad : Bool} (h : ScanAt w b l bad) (n : Nat) : ScanAt (w.drewN n) b l bad := h
theorem grown_trans {a b c : World} {row : Option Nat} (h : a.grownBy b row) (k : b.grownBy c row) : a.grownBy c row :=
  ⟨k.os.trans h.os, k.tape.trans h.tape, k.output.trans h.output, Nat.le_trans h.size k.size, fun i hi hr => (k.block i (Nat.lt_of_lt_of_le hi h.size) hr).trans (h.block i hi hr)⟩
theorem grown_drewN {a b : World} {row : Option Nat} (h : a.grownBy b row) (n : Nat) : a.grownBy (b.drewN n) row := ⟨h.os, h.tape, h.output, h.size, h.block⟩
theorem grown_refl (a : World) (row : Option Nat) : a.grownBy a row := ⟨rfl, rfl, rfl, Nat.le_refl _, fun _ _ _ => rfl⟩
set_option maxHeartbeats 1000000 in
theorem plain_any (b : Nat) (l : List Int) (bad : Bool) (w : World) (h : ScanAt w b l bad) :
    Calls Try.prog 23 #[.pointer (some ⟨b, 0, none⟩)] w fun e w' => e = .returned (.int .i32 (plainR l)) ∧ ScanAt w' b (plainS (l, bad)).1 (plainS (l, bad)).2 ∧ w.grownBy w' (some b) := by
  have HS := Lib.hid h
  clear h
  cases hs : seesL l 92 with
  | false =>
    have HR := Lib.hid (show plainR l = headD l by unfold plainR; rw [hs]; rfl)
    have HP := Lib.hid (show plainS (l, bad) = (l.tail, bad || l.isEmpty) by unfold plainS; rw [hs]; rfl)
    have HC : Hid (∀ W, ScanAt W b l bad → Calls Try.prog 22 #[.pointer (some ⟨b, 0, none⟩), .int .i32 92] W fun e w' => e = .returned (.bool false) ∧ Drawn0 W w') := Lib.hid (fun W hW => by rw [← hs]; exact sees_any b l bad 92 W hW)
    clear hs
    go_enter Try.func23, Try.ntmps23
    go_wp2_with (first | (go_at_call 22; refine (HC.out _ HS.out).mono ?_; rintro e w1 ⟨rfl, ⟨n, rfl⟩⟩) | (go_at_call 17; refine (next_any b l bad _ (HS.out.drewN n)).mono ?_; rintro e w2 ⟨rfl, hs2, hg2⟩; have HS2 := Lib.hid hs2; have HG2 := Lib.hid hg2; clear hs2 hg2))
    go_ret
    exact ⟨by rw [HR.out]; rfl, by rw [HP.out]; exact HS2.out, grown_trans (grown_drewN (grown_refl w _) n) HG2.out⟩
  | true =>
    have HR := Lib.hid (show plainR l = headD l.tail by unfold plainR; rw [hs]; rfl)
    have HP := Lib.hid (show plainS (l, bad) = (l.tail.tail, (bad || l.isEmpty) || l.tail.isEmpty) by unfold plainS; rw [hs]; rfl)
    have HC : Hid (∀ W, ScanAt W b l bad → Calls Try.prog 22 #[.pointer (some ⟨b, 0, none⟩), .int .i32 92] W fun e w' => e = .returned (.bool true) ∧ Drawn0 W w') := Lib.hid (fun W hW => by rw [← hs]; exact sees_any b l bad 92 W hW)
    clear hs
    go_enter Try.func23, Try.ntmps23
    go_wp2_with fail
    refine (HC.out _ HS.out).mono ?_
    rintro e w1 ⟨rfl, ⟨n, rfl⟩⟩
    go_wp2_with fail
    refine (next_any b l bad _ (HS.out.drewN n)).mono ?_
    rintro e w2 ⟨rfl, hs2, hg2⟩
    have HS2 := Lib.hid hs2
    have HG2 := Lib.hid hg2
    clear hs2 hg2
    go_wp2_with fail
    refine (next_any b l.tail _ _ HS2.out).mono ?_
    rintro e w3 ⟨rfl, hs3, hg3⟩
    have HS3 := Lib.hid hs3
    have HG3 := Lib.hid hg3
    clear hs3 hg3
    go_wp2
    go_ret
    exact ⟨by rw [HR.out]; rfl, by rw [HP.out]; exact HS3.out, grown_trans (grown_trans (grown_drewN (grown_refl w _) n) HG2.out) HG3.out⟩
/-- Another row has been written, of another type. -/
theorem LeftAt.grown {w w1 : World} {b : Nat} {v : Value} {l : List Int} (h : LeftAt w b v l) {row : Option Nat} (hg : w.grownBy w1 row) (hr : ∀ k, row = some k → w.heap.size ≤ k ∨ ∃ cells t, w.heap[k]? = some (.cells cells t (0, 0)) ∧ t ≠ 21) : LeftAt w1 b v l := by
  obtain ⟨A, c, h1, h2, h3, h4⟩ := h
  refine ⟨A, c, h1, h2, h3, fun hn => ?_⟩
  obtain ⟨g, o, e, ⟨hgb, cells, hcl⟩, hc⟩ := h4 hn
  have hlt : g < w.heap.size := (Array.getElem?_eq_some_iff.1 hcl).1
  have hne : some g ≠ row := by
    intro he
    rcases hr g he.symm with h | ⟨cells', t, ht, hne⟩
    · omega
    · rw [hcl] at ht
      injection ht with ht
      injection ht with _ ht
      exact hne ht.symm
  have hb := hg.block g hlt hne
  exact ⟨g, o, e, ⟨hgb, cells, hb.trans hcl⟩, fun j hj => by rw [World.cell?_of_block (a := ⟨g, o + j, none⟩) hb]; exact hc j hj⟩
theorem ScanAt.grown {w w1 : World} {b : Nat} {l : List Int} {bad : Bool} (h : ScanAt w b l bad) {row : Option Nat} (hg : w.grownBy w1 row) (hb : some b ≠ row) (hr : ∀ k, row = some k → w.heap.size ≤ k ∨ ∃ cells t, w.heap[k]? = some (.cells cells t (0, 0)) ∧ t ≠ 21) : ScanAt w1 b l bad := by
  obtain ⟨v, h1, h2⟩ := h
  exact ⟨v, (hg.block b (Array.getElem?_eq_some_iff.1 h1).1 hb).trans h1, h2.grown hg hr⟩
theorem ScanAt.below {w w1 : World} {b : Nat} {l : List Int} {bad : Bool} (h : ScanAt w b l bad) (hb : Below w.heap.size w w1) : ScanAt w1 b l bad :=
  h.grown (row := none) ⟨hb.os, hb.tape, hb.output, hb.size, fun k hk _ => hb.block k hk⟩ (by simp) (fun k hk => by cases hk)
end Go.Proofs.Ytfogfkikkekmkaa.GlobScan
