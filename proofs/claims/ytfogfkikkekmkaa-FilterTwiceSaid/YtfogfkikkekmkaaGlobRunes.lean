/- glob: the runes of a text. -/
import Derived.Test.YtfogfkikkekmkaaGlobScan
import Derived.Test.YtfogfkikkekmkaaWMore
import Derived.Lib.RuneCount
import Derived.Lib.TrimUEq
import Derived.Lib.MapLaws
import Derived.Laws.RangeAny
set_option linter.unusedVariables false
set_option linter.unusedSimpArgs false
namespace Go.Proofs.Ytfogfkikkekmkaa.GlobRunes
open Go.RowKit Go.Proofs.YtfogfkikkekmkaaW.PrintWords Go.Proofs.YtfogfkikkekmkaaW.PrintLast Go.Proofs.YtfogfkikkekmkaaW.PrintMore Go.Proofs.Ytfogfkikkekmkaa.GlobScan

/-! ### the iterator over a text, in any world -/
def setIter (W : World) (b : Nat) (s : ByteArray) (p : Nat) : World := { W with heap := W.heap.setIfInBounds b (.stringIter s p) }
def IterAt (W : World) (b : Nat) (s : ByteArray) (p : Nat) : Prop := W.heap[b]? = some (.stringIter s p)
theorem iter_new (W : World) (s : ByteArray) : IterAt (W.iter s 0) W.heap.size s 0 := World.iter_heap W s 0
theorem iter_set (W : World) (b : Nat) (s : ByteArray) (p q : Nat) (h : IterAt W b s p) : IterAt (setIter W b s q) b s q := by
  have hb : b < W.heap.size := (Array.getElem?_eq_some_iff.1 h).1
  show (W.heap.setIfInBounds b _)[b]? = _
  rw [Array.getElem?_setIfInBounds_self_of_lt hb]
theorem iter_lt {W : World} {b : Nat} {s : ByteArray} {p : Nat} (h : IterAt W b s p) : b < W.heap.size := (Array.getElem?_eq_some_iff.1 h).1
theorem iter_grown (W : World) (b : Nat) (s : ByteArray) (q : Nat) : W.grownBy (setIter W b s q) (some b) :=
  ⟨rfl, rfl, rfl, by show _ ≤ (W.heap.setIfInBounds b _).size; rw [Array.size_setIfInBounds]; exact Nat.le_refl _, fun k _ hk => by
    show (W.heap.setIfInBounds b _)[k]? = _
    rw [Array.getElem?_setIfInBounds_ne (fun e => hk (by rw [e]))]⟩
theorem below_iter {w W : World} {b : Nat} (s : ByteArray) (q : Nat) (hB : w.heap.size ≤ b) (h : Below w.heap.size w W) : Below w.heap.size w (setIter W b s q) :=
  h.trans ⟨rfl, rfl, rfl, (iter_grown W b s q).size, fun k hk => by
    show (W.heap.setIfInBounds b _)[k]? = _
    rw [Array.getElem?_setIfInBounds_ne (by omega)]⟩
theorem next_at {P : Program} (W : World) (b : Nat) (s : ByteArray) (pos : Nat) (ty : TypeId) (h : pos < s.size) (hh : IterAt W b s pos) :
    (Instr.next (.pointer (some ⟨b, 0, none⟩)) true ty).run P W = .ok (.tuple #[.bool true, .int .i64 pos, .int .i32 (Utf8.decode s pos).1]) (setIter W b s (pos + (Utf8.decode s pos).2)) := by
  unfold IterAt at hh
  simp only [Instr.next, getObj, setObj, Sem.run_bind, Sem.run, hh, Result.andThen, h, if_true]
  simp [goInt, setIter]
theorem next_done {P : Program} (W : World) (b : Nat) (s : ByteArray) (pos : Nat) (ty : TypeId) (h : ¬ pos < s.size) (hh : IterAt W b s pos) :
    (Instr.next (.pointer (some ⟨b, 0, none⟩)) true ty).run P W = .ok (.tuple #[.bool false]) W := by
  unfold IterAt at hh
  simp [Instr.next, getObj, Sem.run, hh, h]
theorem iterPos_at {W : World} {bi : Nat} {s : ByteArray} {p : Nat} (h : IterAt W bi s p) : W.iterPos bi = p := by
  unfold IterAt at h
  unfold World.iterPos
  rw [h]
/-! ### plain -/
def runesGo : Nat → List UInt8 → List Int
  | 0, _ => []
  | f + 1, l => if l = [] then [] else ((Lib.decodeL l).1 : Int) :: runesGo f (l.drop (Lib.decodeL l).2)
def runesL (l : List UInt8) : List Int := runesGo l.length l
theorem runesGo_nil : ∀ n, runesGo n [] = []
  | 0 => rfl
  | _ + 1 => by simp [runesGo]
theorem runesGo_fuel : ∀ (n m : Nat) (l : List UInt8), l.length ≤ n → l.length ≤ m → runesGo n l = runesGo m l
  | 0, m, l, hn, _ => by
    have : l = [] := List.eq_nil_of_length_eq_zero (by omega)
    subst this
    rw [runesGo_nil, runesGo_nil]
  | n + 1, 0, l, _, hm => by
    have : l = [] := List.eq_nil_of_length_eq_zero (by omega)
    subst this
    rw [runesGo_nil, runesGo_nil]
  | n + 1, m + 1, l, hn, hm => by
    unfold runesGo
    by_cases hne : l = []
    · simp [hne]
    · have hw := Lib.decodeL_width l
      have hl : 0 < l.length := List.length_pos_iff.2 hne
      rw [if_neg hne, if_neg hne, runesGo_fuel n m (l.drop (Lib.decodeL l).2) (by rw [List.length_drop]; omega) (by rw [List.length_drop]; omega)]
theorem runes_step (l : List UInt8) (hne : l ≠ []) : runesL l = ((Lib.decodeL l).1 : Int) :: runesL (l.drop (Lib.decodeL l).2) := by
  have hl : 0 < l.length := List.length_pos_iff.2 hne
  have hw := Lib.decodeL_width l
  obtain ⟨n, hn⟩ : ∃ n, l.length = n + 1 := ⟨l.length - 1, by omega⟩
  unfold runesL
  rw [hn]
  show (if l = [] then [] else _) = _
  rw [if_neg hne, runesGo_fuel n (l.drop (Lib.decodeL l).2).length _ (by rw [List.length_drop]; omega) (Nat.le_refl _)]
theorem runesGo_len : ∀ (n : Nat) (l : List UInt8), (runesGo n l).length ≤ n
  | 0, _ => by simp [runesGo]
  | n + 1, l => by
    unfold runesGo
    split
    · simp
    · have := runesGo_len n (l.drop (Lib.decodeL l).2)
      simp; omega
theorem runes_len (l : List UInt8) : (runesL l).length ≤ l.length := runesGo_len _ _
/-! ### the walk -/
theorem infoI32 : (Try.prog.info? 21).map (fun i => (i.zero, i.size, i.bytes)) = some (some (.int .i32 0), 1, 4) := by kernel_rfl
abbrev RunesR (w W : World) (v : Value) (l : List Int) : Prop := Kd.R (Kd.int .i32) 21 W w.heap.size (fun _ => True) v l
/-- The row is no iterator. -/
theorem row_iter {w W : World} {v : Value} {l : List Int} {b p : Nat} {s : ByteArray} (h : RunesR w W v l) (hi : IterAt W b s p) : v.ownBlock ≠ some b := by
  intro e
  obtain ⟨_, _, _, cells, hc⟩ : ∃ a c d, ∃ cells, W.heap[b]? = some (.cells cells 21 (0, 0)) := by
    obtain ⟨inner, ho⟩ := Kd.R_own h
    obtain ⟨cells, hc⟩ := own_typed ho b e
    exact ⟨0, 0, 0, cells, hc⟩
  unfold IterAt at hi
  rw [hi] at hc
  cases hc
theorem row_grown {w W W1 : World} {v : Value} {l : List Int} {b : Nat} (h : RunesR w W v l) (hne : v.ownBlock ≠ some b) (hg : W.grownBy W1 (some b)) : RunesR w W1 v l := by
  obtain ⟨h0, inner, ho, hr⟩ := h
  exact ⟨h0, inner, ho.kept hg (Or.inr hne), hr⟩
set_option maxHeartbeats 2000000 in
set_option maxRecDepth 100000 in
theorem runes_any (s : ByteArray) (hs : s.size ≤ 1000000) (w : World) :
    Calls Try.prog 16 #[.string s] w fun e w' => ∃ v, e = .returned v ∧ RunesR w w' v (runesL s.data.toList) ∧ Below w.heap.size w w' := by
  obtain ⟨R, hR⟩ : ∃ R, R = runesL s.data.toList := ⟨_, rfl⟩
  have HR0 := Lib.hid (show R = [] ++ runesL (s.data.toList.drop 0) by rw [hR, List.drop_zero, List.nil_append])
  rw [← hR]
  clear hR
  go_enter Try.func16, Try.ntmps16
  go_wp2
  have HX0 := Lib.hid (iter_new w s)
  have HB0 := Lib.hid (show Below w.heap.size w (w.iter s 0) from (Below.refl _ _).alloc (Nat.le_refl _) _)
  have HO0 := Lib.hid (show RunesR w (w.iter s 0) (.slice none 0 0) [] from Kd.R_nil _ _ _ _ _)
  have HLe := Lib.hid (Nat.le_refl w.heap.size)
  obtain ⟨bi, hbi⟩ : ∃ bi, bi = w.heap.size := ⟨_, rfl⟩
  have HBi := Lib.hid hbi
  generalize w.iter s 0 = w0 at *
  go_loopw [3] (fun v wr => ∃ (i : Nat) (acc : List Int), i ≤ s.size ∧ acc.length ≤ i ∧ Hid (IterAt wr w.heap.size s i) ∧ Hid (RunesR w wr v acc) ∧ Hid (Below w.heap.size w wr) ∧ Hid (R = acc ++ runesL (s.data.toList.drop i))) (fun _ wr => s.size - wr.iterPos w.heap.size)
  case atStart => exact ⟨0, [], by omega, by simp, HX0, HO0, HB0, HR0⟩
  case round =>
    clear HX0 HO0 HB0 HR0
    obtain ⟨i, acc, his, hacc, HX, HO, HB, HR⟩ := hrel
    have hip : wr.iterPos w.heap.size = i := iterPos_at HX.out
    by_cases hi : i < s.size
    · have hnx := fun ty => next_at (P := Try.prog) wr w.heap.size s i ty hi HX.out
      have hne : s.data.toList.drop i ≠ [] := by
        intro e
        have := congrArg List.length e
        rw [List.length_drop, ← Lib.size_eq, List.length_nil] at this
        omega
      have hst := runes_step _ hne
      rw [Lib.decodeL_drop, List.drop_drop] at hst
      have hw1 := Lib.decode_width_pos s i hi
      have hwid : i + (Utf8.decode s i).2 ≤ s.size := by
        have := Lib.decodeL_le _ hne
        rw [Lib.decodeL_drop, List.length_drop, ← Lib.size_eq] at this
        omega
      have HST := Lib.hid hst
      clear hst hne
      obtain ⟨r, k, hrk⟩ : ∃ r k, Utf8.decode s i = (r, k) := ⟨_, _, rfl⟩
      rw [hrk] at hnx HST hw1 hwid
      clear hrk
      simp only at hnx HST hw1 hwid
      have HB1 := Lib.hid (below_iter s (i + k) HLe.out HB.out)
      have hne := row_iter HO.out HX.out
      have HNe := Lib.hid hne
      have HO1 := Lib.hid (row_grown HO.out hne (iter_grown wr w.heap.size s (i + k)))
      have HX1 := Lib.hid (iter_set _ _ _ _ (i + k) HX.out)
      generalize setIter wr w.heap.size s (i + k) = w1 at *
      clear HB HO HX hne
      go_wp2_with (first | ((with_reducible refine gate_builtin (b := .append) (xs := #[.tmp 11, .tmp 13]) rfl ?_); at_builtin; refine Kd.R_append (Kd.int .i32) (w0 := w) w.heap.size rfl (.tmp 11) (.tmp 13) 53 21 (.int .i32 0) 4 rfl Try.underlying53 infoI32 rfl (by decide) (by omega) _ acc (r : Int) [.int .i32 (r : Int)] (fun _ => True) (fun _ => False) rfl rfl ?aP (fun _ hk => hk.elim) ?aF ?aO ?aB ?aS ?aL ?_; (case aP => exact rfl); (case aB => exact HB1.out); (case aF => exact (fun _ _ => trivial)); (case aO => exact HO1.out); (case aS => exact HB1.out.size); (case aL => omega); intro v1 w2 ho hb hg hat; have HO2 := Lib.hid ho; have HB2 := Lib.hid hb; have HX2 := Lib.hid (show IterAt w2 w.heap.size s (i + k) from (hg.block _ (iter_lt HX1.out) (fun e => HNe.out e.symm)).trans HX1.out); clear ho hb hg hat))
      go_roundw
      case rel => exact ⟨i + k, acc ++ [(r : Int)], hwid, by rw [List.length_append, List.length_singleton]; omega, HX2, HO2, HB2, Lib.hid (by rw [HR.out, HST.out, List.append_assoc]; rfl)⟩
      case measure =>
        have hp2 := iterPos_at HX2.out
        rw [hip, hp2]; omega
    · obtain rfl : i = s.size := by omega
      have hnx := fun ty => next_done (P := Try.prog) wr w.heap.size s s.size ty (by omega) HX.out
      have HRs := Lib.hid (show R = acc by rw [HR.out, List.drop_of_length_le (by rw [← Lib.size_eq]; exact Nat.le_refl _)]; show acc ++ [] = acc; rw [List.append_nil])
      go_wp2
      go_ret
      exact ⟨_, rfl, by rw [HRs.out]; exact HO.out, HB.out⟩
end Go.Proofs.Ytfogfkikkekmkaa.GlobRunes
