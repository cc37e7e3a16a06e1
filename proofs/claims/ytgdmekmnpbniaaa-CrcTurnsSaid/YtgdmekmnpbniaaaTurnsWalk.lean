/- The walk of CrcTurns: whatever the text, the place and the turn it returns true and touches nothing that was there. -/
import Derived.Test.YtgdmekmnpbniaaaCrcWalk
import Derived.OpenShut
import Derived.Lib.ConvBytes
import Derived.Laws.BytesArg
set_option linter.unusedVariables false
set_option linter.unusedSimpArgs false
namespace Go.Proofs.Ytgdmekmnpbniaaa.TurnsWalk
open Go.RowKit Go.Proofs.YtgdmekmnpbniaaaW.PrintWords Go.Proofs.YtgdmekmnpbniaaaW.PrintLast Go.Proofs.Ytgdmekmnpbniaaa.CrcLaw Go.Proofs.Ytgdmekmnpbniaaa.CrcInt Go.Proofs.Ytgdmekmnpbniaaa.CrcWalk

set_option maxHeartbeats 400000 in
set_option maxRecDepth 100000 in
theorem far (s : ByteArray) (at_ : Int) (t : B32) (h : s.size < 4 ∨ 5000 < s.size ∨ t = 0#32) (w : World) :
    Calls Try.prog 5 #[.string s, .int .i64 at_, .int .u32 (iv t)] w fun e w' => e = .returned (.bool true) ∧ Below w.heap.size w w' := by
  by_cases h1 : s.size < 4
  · clear h
    have e1 : decide ((s.size : Int) < 4) = true := decide_eq_true (by omega)
    go_enter Try.func5, Try.ntmps5
    go_wp2_with (go_at_call 8; refine (awake_any _).mono ?_; rintro e w1 ⟨rfl, hb⟩)
    go_ret
    exact ⟨rfl, hb⟩
  · by_cases h2 : 5000 < s.size
    · clear h
      have e1 : decide ((s.size : Int) < 4) = false := decide_eq_false (by omega)
      have e2 : decide (5000 < (s.size : Int)) = true := decide_eq_true (by omega)
      go_enter Try.func5, Try.ntmps5
      go_wp2_with (go_at_call 8; refine (awake_any _).mono ?_; rintro e w1 ⟨rfl, hb⟩)
      go_ret
      exact ⟨rfl, hb⟩
    · have h3 : t = 0#32 := (h.resolve_left h1).resolve_left h2
      clear h
      have e1 : decide ((s.size : Int) < 4) = false := decide_eq_false (by omega)
      have e2 : decide (5000 < (s.size : Int)) = false := decide_eq_false (by omega)
      have e3 : (iv t == 0) = true := by rw [h3]; rfl
      clear h3
      go_enter Try.func5, Try.ntmps5
      go_wp2_with (go_at_call 8; refine (awake_any _).mono ?_; rintro e w1 ⟨rfl, hb⟩)
      go_ret
      exact ⟨rfl, hb⟩
/-- A row of bytes that may be written. -/
def Held (w : World) (g n : Nat) (xs : List Int) : Prop := ∀ j, j < n → w.cell? ⟨g, j, none⟩ = some (.int .u8 (xs.getD j 0)) ∧ w.frozen? ⟨g, j, none⟩ = false
def nums0 (s : ByteArray) : List Int := (words s).map iv
/-- The turn's byte k. -/
def tb (t : B32) (k : Nat) : B32 := (t >>> (8 * k)) &&& 255#32
/-- The text's words behind k rounds. -/
def XW (l : List B32) (K : Nat) (t : B32) : Nat → List B32
  | 0 => l
  | k + 1 => (XW l K t k).set (K + k) ((XW l K t k).getD (K + k) 0#32 ^^^ tb t k)
def X (s : ByteArray) (K : Nat) (t : B32) (k : Nat) : List Int := (XW (words s) K t k).map iv
theorem XW_length (l : List B32) (K : Nat) (t : B32) (k : Nat) : (XW l K t k).length = l.length := by
  induction k with
  | zero => rfl
  | succ k ih => simp only [XW, List.length_set]; exact ih
theorem low_idem (x : B32) : (x &&& 255#32) &&& 255#32 = x &&& 255#32 := by rw [BitVec.and_assoc, BitVec.and_self]
theorem low_xor (a b : B32) (ha : a &&& 255#32 = a) (hb : b &&& 255#32 = b) : (a ^^^ b) &&& 255#32 = a ^^^ b := by
  apply BitVec.eq_of_getLsbD_eq; intro i hi
  have h1 := congrArg (fun y : B32 => y.getLsbD i) ha
  have h2 := congrArg (fun y : B32 => y.getLsbD i) hb
  simp only [BitVec.getLsbD_and, BitVec.getLsbD_xor] at *
  revert h1 h2
  cases a.getLsbD i <;> cases b.getLsbD i <;> cases (255#32 : B32).getLsbD i <;> simp
theorem XW_low (l : List B32) (hl : ∀ c ∈ l, c &&& 255#32 = c) (K : Nat) (t : B32) (k : Nat) : ∀ c ∈ XW l K t k, c &&& 255#32 = c := by
  induction k with
  | zero => exact hl
  | succ k ih =>
    intro c hc
    simp only [XW] at hc
    rcases List.mem_or_eq_of_mem_set hc with h | h
    · exact ih c h
    · rw [h]
      apply low_xor
      · by_cases hi : K + k < (XW l K t k).length
        · rw [List.getD_eq_getElem?_getD, List.getElem?_eq_getElem hi]; exact ih _ (List.getElem_mem hi)
        · rw [List.getD_eq_getElem?_getD, List.getElem?_eq_none (by omega)]; rfl
      · exact low_idem _
theorem words_low (s : ByteArray) : ∀ c ∈ words s, c &&& 255#32 = c := by
  intro c hc
  obtain ⟨d, _, rfl⟩ := List.mem_map.1 hc
  exact word_low d
theorem X_get (s : ByteArray) (K : Nat) (t : B32) (k j : Nat) : (X s K t k)[j]?.getD 0 = iv ((XW (words s) K t k).getD j 0#32) := by
  unfold X
  rw [List.getElem?_map, List.getD_eq_getElem?_getD]
  cases (XW (words s) K t k)[j]? <;> rfl
/-- One round. -/
theorem X_succ (s : ByteArray) (K : Nat) (t : B32) (k : Nat) (hk : k < 4) (hK : K + k < s.size) :
    (X s K t k).set (K + k) (Go.bits .xor .u8 ((X s K t k)[K + k]?.getD 0) (iv t / 2 ^ (8 * k) % 256)) = X s K t (k + 1) := by
  have hl : K + k < (XW (words s) K t k).length := by rw [XW_length, words_length]; exact hK
  have e : iv t / 2 ^ (8 * k) = iv (t >>> (8 * k)) := by
    unfold iv
    rw [BitVec.toNat_ushiftRight, Nat.shiftRight_eq_div_pow]
    norm_cast
  rw [X_get, e, low_iv]
  have hc : (XW (words s) K t k).getD (K + k) 0#32 &&& 255#32 = (XW (words s) K t k).getD (K + k) 0#32 := by
    rw [List.getD_eq_getElem?_getD, List.getElem?_eq_getElem hl]; exact XW_low _ (words_low s) K t k _ (List.getElem_mem hl)
  rw [← hc, bits8]
  unfold X
  simp only [XW]
  rw [List.map_set]
  congr 2
  have h2 := low_xor _ (tb t k) hc (low_idem _)
  rw [← h2]
  unfold tb
  apply BitVec.eq_of_getLsbD_eq; intro i hi
  simp only [BitVec.getLsbD_and, BitVec.getLsbD_xor]
  cases (List.getD (XW (words s) K t k) (K + k) 0#32).getLsbD i <;> cases (t >>> (8 * k)).getLsbD i <;> cases (255#32 : B32).getLsbD i <;> rfl
theorem words_nums (l : List B32) (hl : ∀ c ∈ l, c &&& 255#32 = c) : words (strOfNums (l.map iv)) = l := by
  unfold words
  rw [strOfNums_data, List.map_map, List.map_map]
  conv => rhs; rw [← List.map_id l]
  apply List.map_congr_left
  intro c hc
  have h := low_iv c
  rw [hl c hc] at h
  simp only [Function.comp_apply, id_eq]
  apply BitVec.eq_of_toNat_eq
  rw [BitVec.toNat_ofNat]
  have h0 := iv_nonneg c
  have h3 : (iv c).toNat = c.toNat := by unfold iv; omega
  rw [h3]
  have h4 : c.toNat < 256 := by unfold iv at h; omega
  rw [UInt8.toNat_ofNat']
  omega
theorem tb_join (t : B32) : tb t 0 ^^^ tb t 1 <<< 8 ^^^ tb t 2 <<< 16 ^^^ tb t 3 <<< 24 = t := by
  unfold tb
  apply BitVec.eq_of_getLsbD_eq; intro i hi
  rw [show (255#32 : B32) = BitVec.ofNat 32 (2 ^ 8 - 1) by decide]
  simp only [BitVec.getLsbD_xor, BitVec.getLsbD_shiftLeft, BitVec.getLsbD_and, BitVec.getLsbD_ushiftRight, BitVec.getLsbD_ofNat, Nat.testBit_two_pow_sub_one]
  by_cases h1 : i < 8
  · simp [h1, hi, show i < 16 by omega, show i < 24 by omega]
  · by_cases h2 : i < 16
    · simp [h1, h2, hi, show i < 24 by omega, show i - 8 < 8 by omega, show i - 8 < 32 by omega, show 8 + (i - 8) = i by omega]
    · by_cases h3 : i < 24
      · simp [h1, h2, h3, hi, show ¬ i - 8 < 8 by omega, show i - 16 < 8 by omega, show i - 16 < 32 by omega, show 16 + (i - 16) = i by omega]
      · simp [h1, h2, h3, hi, show ¬ i - 8 < 8 by omega, show ¬ i - 16 < 8 by omega, show i - 24 < 8 by omega, show i - 24 < 32 by omega, show 24 + (i - 24) = i by omega]
theorem split4 (l : List B32) (K : Nat) (h : K + 3 < l.length) : ∃ p c0 c1 c2 c3 r, l = p ++ [c0, c1, c2, c3] ++ r ∧ p.length = K := by
  refine ⟨l.take K, l[K], l[K + 1], l[K + 2], l[K + 3], l.drop (K + 4), ?_, by simp; omega⟩
  conv => lhs; rw [← List.take_append_drop K l]
  rw [List.append_assoc]
  congr 1
  rw [List.drop_eq_getElem_cons (show K < l.length by omega), List.drop_eq_getElem_cons (show K + 1 < l.length by omega), List.drop_eq_getElem_cons (show K + 2 < l.length by omega), List.drop_eq_getElem_cons (show K + 3 < l.length by omega)]
  rfl
theorem XW_four (p r : List B32) (c0 c1 c2 c3 t : B32) : XW (p ++ [c0, c1, c2, c3] ++ r) p.length t 4 = p ++ [c0 ^^^ tb t 0, c1 ^^^ tb t 1, c2 ^^^ tb t 2, c3 ^^^ tb t 3] ++ r := by
  simp only [XW, List.append_assoc, List.cons_append, List.nil_append]
  simp [List.set_append, List.getD_eq_getElem?_getD, List.getElem?_append]
theorem sums_part (s : ByteArray) (K : Nat) (t : B32) (hK : K + 3 < s.size) (ht : t ≠ 0#32) : sumFrom 0#32 (words (strOfNums (X s K t 4))) ≠ sumFrom 0#32 (words s) := by
  unfold X
  rw [words_nums _ (XW_low _ (words_low s) K t 4)]
  obtain ⟨p, c0, c1, c2, c3, r, he, hp⟩ := split4 (words s) K (by rw [words_length]; exact hK)
  rw [he, ← hp, XW_four]
  exact turned 0#32 p _ r (tb t 0) (tb t 1) (tb t 2) (tb t 3) c0 c1 c2 c3 (low_idem _) (low_idem _) (low_idem _) rfl (by rw [tb_join]; exact ht)
theorem held_bytes (w : World) (e : TypeId) (s : ByteArray) : Held (Lib.bytesWorld w e s) w.heap.size s.size (nums0 s) := by
  intro j hj
  refine ⟨?_, ?_⟩
  · rw [Lib.bytesWorld_cell w e s j hj]
    have hj2 : j < (words s).length := by rw [words_length]; exact hj
    have e := byte_word s j hj
    rw [words_low s _ (List.getElem_mem hj2)] at e
    simp only [nums0, List.getD_eq_getElem?_getD, List.getElem?_map, List.getElem?_eq_getElem hj2, Option.map_some, Option.getD_some]
    rw [← e, List.getElem?_eq_getElem (show j < s.data.toList.length by simpa using hj)]
    rfl
  · simp only [World.frozen?, Lib.bytesWorld_at_new]
    have : j < (Lib.bytesCells w e s).size := by
      have h2 : s.data.size = s.size := rfl
      simp only [Lib.bytesCells, Array.size_append, Array.size_map]; omega
    simp; omega
theorem X_length (s : ByteArray) (K : Nat) (t : B32) (k : Nat) : (X s K t k).length = s.size := by
  unfold X
  rw [List.length_map, XW_length, words_length]
theorem held_set {w : World} {g n : Nat} {xs : List Int} (h : Held w g n xs) (hl : xs.length = n) {p : Nat} {v : Int} (hp : p < n) : Held ((w.setCell ⟨g, p, none⟩ (.int .u8 v)).drew) g n (xs.set p v) := by
  intro j hj
  have hf : (w.setCell ⟨g, p, none⟩ (.int .u8 v)).drew.frozen? ⟨g, j, none⟩ = w.frozen? ⟨g, j, none⟩ := World.frozen?_setCell w _ _ _
  refine ⟨?_, hf.trans (h j hj).2⟩
  show (w.setCell ⟨g, p, none⟩ (.int .u8 v)).cell? ⟨g, j, none⟩ = _
  rw [List.getD_eq_getElem?_getD]
  by_cases e : p = j
  · subst e
    rw [World.cell?_setCell_same w _ _ (h p hj).1, List.getElem?_set_self (by omega)]; rfl
  · rw [World.cell?_setCell_other w _ _ _ (fun e2 => e (by injection e2)), (h j hj).1, List.getElem?_set_ne e, List.getD_eq_getElem?_getD]
theorem conv_back {w w2 : World} {g n : Nat} {xs : List Int} (hb : Below w.heap.size w w2) (h : Held w g n xs) (hl : xs.length = n) (cap : Nat) :
    (convert 34 9 (.slice (some ⟨g, 0, none⟩) n cap)).run Try.prog w2 = .ok (.string (strOfNums xs)) w2 :=
  run_convert_bytes_arg w2 34 5 Try.underlying34 Try.underlying5 g 0 n cap xs hl (fun i hi => by
    rw [Nat.zero_add]; exact pw_cell_below hb (h i hi).1) 9 Try.underlying9
theorem below_of {w w1 w2 : World} (h : Below w.heap.size w w1) (k : Drawn0 w1 w2) : Below w.heap.size w w2 := h.trans (k.below.mono h.size)
theorem tab_drewN {w : World} {a : Addr} {T : Nat → B32} (h : TabAt w a T) (n : Nat) : TabAt (w.drewN n) a T := fun i hi => h i hi
theorem below_bytes {w w1 : World} (h : Below w.heap.size w w1) (e : TypeId) (s : ByteArray) : Below w.heap.size w (Lib.bytesWorld w1 e s) :=
  ⟨h.os, h.tape, h.output, by rw [Lib.bytesWorld_size]; have := h.size; omega, fun i hi => (Lib.bytesWorld_at_old w1 e s i (by have := h.size; omega)).trans (h.block i hi)⟩
theorem place_any (n : Nat) (a : Int) (h1 : 4 ≤ n) (h2 : n ≤ 5000) : ∃ K : Nat, wrap64 ((IntKind.u64.wrap a).tmod ((n : Int) - 3)) = (K : Int) ∧ K + 3 < n := by
  have h0 : 0 ≤ IntKind.u64.wrap a := by
    simp only [IntKind.wrap, IntKind.bits, IntKind.signed, Bool.false_and, if_neg (Bool.false_ne_true)]; omega
  rw [Int.tmod_eq_emod_of_nonneg h0]
  have h3 := Int.emod_nonneg (IntKind.u64.wrap a) (show (n : Int) - 3 ≠ 0 by omega)
  have h4 := Int.emod_lt_of_pos (IntKind.u64.wrap a) (show 0 < (n : Int) - 3 by omega)
  refine ⟨((IntKind.u64.wrap a) % ((n : Int) - 3)).toNat, ?_, by omega⟩
  unfold wrap64
  omega
set_option maxHeartbeats 400000 in
set_option maxRecDepth 100000 in
theorem near (s : ByteArray) (at_ : Int) (t : B32) (h1 : 4 ≤ s.size) (h2 : s.size ≤ 5000) (h3 : t ≠ 0#32) (w : World) :
    Calls Try.prog 5 #[.string s, .int .i64 at_, .int .u32 (iv t)] w fun e w' => e = .returned (.bool true) ∧ Below w.heap.size w w' := by
  have hz := zero25
  have hst := store25
  have e1 : decide ((s.size : Int) < 4) = false := decide_eq_false (by omega)
  have e2 : decide (5000 < (s.size : Int)) = false := decide_eq_false (by omega)
  have e3 : (iv t == 0) = false := beq_eq_false_iff_ne.2 (fun h => h3 (iv_inj (h.trans (by decide))))
  have hcv := fun w : World => Lib.run_convert_string_bytes (P := Try.prog) w 9 34 5 s Try.underlying9 Try.underlying34 Try.underlying5
  obtain ⟨K, hK, hK1⟩ := place_any s.size at_ h1 h2
  have hKw : IntKind.i64.wrap ((IntKind.u64.wrap at_).tmod ((s.size : Int) - 3)) = (K : Int) := (i64_w _).trans hK
  go_enter Try.func5, Try.ntmps5
  go_wp2_with (go_at_call 8; refine (awake_any _).mono ?_; rintro e w1 ⟨rfl, hb⟩)
  have HB0 := Lib.hid (below_bytes hb 5 s)
  have HH0 := Lib.hid (held_bytes w1 5 s)
  obtain ⟨g, hg⟩ : ∃ g : Nat, g = w1.heap.size := ⟨_, rfl⟩
  have HG := Lib.hid (show w.heap.size ≤ g by rw [hg]; exact hb.size)
  obtain ⟨cap, hcap⟩ : ∃ c : Nat, c = grownCap w1 s.size 0 5 := ⟨_, rfl⟩
  obtain ⟨W0, hW⟩ : ∃ W0 : World, W0 = Lib.bytesWorld w1 5 s := ⟨_, rfl⟩
  rw [← hW] at HB0 HH0 ⊢
  rw [← hcap]
  rw [← hg] at HH0 ⊢
  clear hcv hW hcap hg hb hK hKw
  go_loopw [35] (fun i wr => ∃ k : Nat, k ≤ 4 ∧ i = .int .i64 k ∧ Hid (Held wr g s.size (X s K t k)) ∧ Hid (Below w.heap.size w wr)) (fun i _ => 4 - (intOf i).toNat)
  case atStart => exact ⟨0, by omega, rfl, HH0, HB0⟩
  case round =>
    obtain ⟨k, hk, rfl, HH, HB⟩ := hrel
    by_cases hlt : k < 4
    · obtain ⟨hc, hf⟩ := HH.out (K + k) (by omega)
      have q1 : IntKind.i64.wrap ((K : Int) + k) = K + k := (i64_w _).trans (by unfold wrap64; omega)
      have q2 : 0 ≤ (K : Int) + k := by omega
      have q3 : (K : Int) + k < s.size := by omega
      have q4 : ((K : Int) + k).toNat = K + k := by omega
      have q5 : IntKind.i64.wrap (8 * (k : Int)) = 8 * k := (i64_w _).trans (by unfold wrap64; omega)
      have q6 : 0 ≤ 8 * (k : Int) := by omega
      have q7 : (8 * (k : Int)).toNat = 8 * k := by omega
      have HS := Lib.hid (X_succ s K t k hlt (by omega))
      go_wp2
      go_region
      go_wp2
      go_roundw
      case rel => exact ⟨k + 1, by omega, by go_num, Lib.hid (by rw [← HS.out]; exact held_set HH.out (X_length s K t k) (by omega)), Lib.hid ((HB.out.setCell HG.out _).drew)⟩
      case measure => simp [intOf]; omega
    · have hk4 : k = 4 := by omega
      have hH4 := HH.out
      rw [hk4] at hH4
      have HH4 := Lib.hid hH4
      have hsum := sums_part s K t hK1 h3
      have e4 : (iv (sumThr own 0#32 (words (strOfNums (X s K t 4)))) != iv (sumThr own 0#32 (words s))) = true := by
        rw [sumThr_own, sumThr_own, bne_iff_ne]; exact fun h => hsum (iv_inj h)
      have HX := Lib.hid (strOfNums_size (X s K t 4))
      have HL := Lib.hid (X_length s K t 4)
      clear hH4 hsum
      go_wp2_with (first | (go_at_call 9; refine (make_any _).mono ?_; rintro e w2 ⟨rfl, hb2⟩; have hcv := conv_back (hb2.alloc hb2.size (.cells (tabC 256) 25)) HH4.out HL.out cap) | (go_at_call 13; refine (sum_at _ _ own (by repeat (first | exact tab_own w2 w2 (tabC 256) rfl | apply tab_drewN)) _ (by first | omega | (rw [HX.out, HL.out]; omega))).mono ?_; rintro e w3 ⟨rfl, ⟨nd, rfl⟩⟩))
      go_ret
      refine ⟨rfl, below_of (w1 := w2.alloc (.cells (tabC 256) 25)) (below_then HB.out HB.out.size (hb2.alloc hb2.size _)) (by repeat (first | exact Drawn0.refl _ | apply Drawn0.step))⟩
theorem walk (s : ByteArray) (at_ t : Int) (w0 : s.size ≤ 140737488351232) (w1 : (Lit.int .i64 at_).wf = true) (w2 : (Lit.int .u32 t).wf = true) (w : World) :
    Calls Try.prog 5 #[.string s, .int .i64 at_, .int .u32 t] w fun e w' => e = .returned (.bool true) ∧ Below w.heap.size w w' := by
  have b := bounds_u32 w2
  rw [iv_of b.1 (by omega)]
  by_cases h : s.size < 4 ∨ 5000 < s.size ∨ BitVec.ofNat 32 t.toNat = 0#32
  · exact far s at_ _ h w
  · exact near s at_ _ (by omega) (by omega) (fun e => h (Or.inr (Or.inr e))) w
end Go.Proofs.Ytgdmekmnpbniaaa.TurnsWalk
