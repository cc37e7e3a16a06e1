/- The walk of CrcTables: whatever the table it returns true and touches nothing that was there. -/
import Derived.Test.YtgdmekmnpbniaaaCrcWalk
import Derived.OpenShut
import Derived.ProofKit
import Derived.Deep.RegionWith
set_option linter.unusedVariables false
set_option linter.unusedSimpArgs false
namespace Go.Proofs.Ytgdmekmnpbniaaa.TablesWalk
open Go.RowKit Go.Proofs.YtgdmekmnpbniaaaW.PrintWords Go.Proofs.Ytgdmekmnpbniaaa.CrcLaw Go.Proofs.Ytgdmekmnpbniaaa.CrcInt Go.Proofs.Ytgdmekmnpbniaaa.CrcWalk

theorem below_of {w w1 w2 : World} (h : Below w.heap.size w w1) (k : Drawn0 w1 w2) : Below w.heap.size w w2 := h.trans (k.below.mono h.size)
theorem tab_drewN {w : World} {a : Addr} {T : Nat → B32} (h : TabAt w a T) (n : Nat) : TabAt (w.drewN n) a T := fun i hi => h i hi
theorem tab_below {w w2 : World} {a : Addr} {T : Nat → B32} (hb : Below w.heap.size w w2) (h : TabAt w a T) : TabAt w2 a T := fun i hi => pw_cell_below hb (h i hi)
/-- Any table's cells. -/
def arrC (T : Nat → B32) : Array Value := Array.ofFn (n := 256) fun i => .int .u32 (iv (T i.val))
theorem arrC_size (T : Nat → B32) : (arrC T).size = 256 := by simp [arrC]
theorem arrC_one (T : Nat → B32) : (arrC T).all (·.oneCell') = true := by
  rw [Array.all_eq_true]
  intro i hi
  simp only [arrC, Array.getElem_ofFn]
  rfl
theorem tab_arr (W : World) (t : TypeId) (T : Nat → B32) : TabAt (W.alloc (.cells (arrC T) t)) ⟨W.heap.size, 0, none⟩ T := by
  intro i hi
  rw [add_plain, cell_of_row _ _ _ _ _ _ (heap_alloc_new W _)]
  rw [Array.getElem?_eq_getElem (by rw [arrC_size]; exact hi)]
  simp only [arrC, Array.getElem_ofFn]
set_option maxHeartbeats 400000 in
set_option maxRecDepth 100000 in
theorem through_any (w : World) (C : Array Value) (T : Nat → B32) (hC : C = arrC T) (x : B32) (s : ByteArray) (hs : s.size ≤ 5000) :
    Calls Try.prog 15 #[.agg C, .int .u32 (iv x), .string s] w fun e w' => e = .returned (.int .u32 (iv (sumThr T x (words s)))) ∧ Below w.heap.size w w' := by
  have HT := Lib.hid (hC ▸ tab_arr w 24 T : TabAt (w.alloc (.cells C 24)) ⟨w.heap.size, 0, none⟩ T)
  have hsz : C.size = 256 := by rw [hC, arrC_size]
  have hx : IntKind.u32.wrap (4294967295 - iv x) = iv (~~~ x) := by rw [IntKind.wrap_u32, not_iv]
  clear hC
  go_enter Try.func15, Try.ntmps15
  go_wp2
  clear hx
  have HB1 := Lib.hid ((Below.refl w.heap.size w).alloc (Nat.le_refl _) (.cells C 24))
  obtain ⟨a, ha⟩ : ∃ a : Addr, a = ⟨w.heap.size, 0, none⟩ := ⟨_, rfl⟩
  rw [← ha] at HT ⊢
  obtain ⟨W1, hW⟩ : ∃ W1 : World, W1 = w.alloc (.cells C 24) := ⟨_, rfl⟩
  rw [← hW] at HT HB1 ⊢
  clear ha hW
  go_loop [1, 7] (fun n i => ∃ (k : Nat) (y : B32), k ≤ s.size ∧ i = .int .i64 k ∧ n = .int .u32 (iv y) ∧ Hid (~~~ (thr T y ((words s).drop k)) = sumThr T x (words s))) (fun _ i => s.size - (intOf i).toNat)
  case atStart => exact ⟨0, ~~~ x, by omega, rfl, rfl, Lib.hid rfl⟩
  case round =>
    obtain ⟨k, y, hk, rfl, rfl, HY⟩ := hrel
    by_cases hlt : k < s.size
    · obtain ⟨J, hJ⟩ : ∃ J, ((y ^^^ (words s)[k]'(by rw [words_length]; exact hlt)) &&& 255#32).toNat = J := ⟨_, rfl⟩
      have hJ1 : J < 256 := by
        rw [← hJ, BitVec.toNat_and, show (255#32 : B32).toNat = 2 ^ 8 - 1 by decide, Nat.and_two_pow_sub_one_eq_mod]; omega
      have hJ2 : (J : Int) < 256 := by omega
      have hw := words_drop s k hlt
      have hb := byte_word s k hlt
      have h8 : Go.bits .xor .u32 (iv (y &&& 255#32)) (iv ((words s)[k]'(by rw [words_length]; exact hlt) &&& 255#32)) = (J : Int) := by
        rw [xor_iv, ← hJ]
        unfold iv
        congr 2
        apply BitVec.eq_of_getLsbD_eq; intro i hi; simp only [BitVec.getLsbD_xor, BitVec.getLsbD_and]
        cases y.getLsbD i <;> cases ((words s)[k]'(by rw [words_length]; exact hlt)).getLsbD i <;> cases (255#32 : B32).getLsbD i <;> rfl
      have hcell := HT.out J hJ1
      have hn : thrStep T y ((words s)[k]'(by rw [words_length]; exact hlt)) = T J ^^^ (y >>> 8) := by unfold thrStep; rw [hJ]
      have h9 : Go.bits .xor .u32 (iv (T J)) (iv (y >>> 8)) = iv (T J ^^^ (y >>> 8)) := by rw [xor_iv]
      have hl := low_iv y
      have hq := byte_iv y
      have y0 := iv_nonneg y
      have y1 := iv_lt y
      rw [← hb] at h8
      have hu : IntKind.u32.wrap ((s[k]).toNat : Int) = ((s[k]).toNat : Int) := by rw [hb, wrap_iv]
      have HN := Lib.hid hn
      have HW := Lib.hid hw
      clear hb hn hw hJ
      go_wp2
      go_round
      case rel => exact ⟨k + 1, thrStep T y ((words s)[k]'(by rw [words_length]; exact hlt)), by omega, by go_num, by rw [HN.out], Lib.hid (by rw [← HY.out, HW.out]; rfl)⟩
      case measure => simp [intOf]; omega
    · obtain rfl : k = s.size := by omega
      have hf : ~~~ y = sumThr T x (words s) := by
        have := HY.out
        rwa [List.drop_of_length_le (by rw [words_length]; omega)] at this
      have hx : IntKind.u32.wrap (4294967295 - iv y) = iv (~~~ y) := by rw [IntKind.wrap_u32, not_iv]
      have HF := Lib.hid hf
      clear hf
      go_wp2
      go_ret
      exact ⟨by rw [← HF.out]; rfl, HB1.out⟩
theorem load_at (w : World) (g : Nat) (t : TypeId) (c : Array Value) (fr : Nat × Nat) (n : Nat) (hg : w.heap[g]? = some (.cells c t fr)) (hn : c.size = n) :
    (loadCellsFrom ⟨g, 0, none⟩ 0 n #[]).run Try.prog w = .ok c w := by
  subst hn
  have := run_loadCells_list (P := Try.prog) w ⟨g, 0, none⟩ c.toList (fun j v hv => by
    rw [add_plain, cell_of_row _ _ j c t fr hg]
    simpa using hv)
  simpa [loadCells] using this
theorem size25 (w : World) : (sizeOf 25).run Try.prog w = .ok 256 w := by kernel_rfl
set_option maxHeartbeats 400000 in
set_option maxRecDepth 100000 in
theorem far (C : Array Value) (x : B32) (s : ByteArray) (hsz : C.size = 256) (h : 5000 < s.size) (w : World) :
    Calls Try.prog 4 #[.agg C, .int .u32 (iv x), .string s] w fun e w' => e = .returned (.bool true) ∧ Below w.heap.size w w' := by
  have e1 : decide (5000 < (s.size : Int)) = true := decide_eq_true (by omega)
  clear h
  go_enter Try.func4, Try.ntmps4
  go_wp2_with (go_at_call 8; refine (awake_any _).mono ?_; rintro e w1 ⟨rfl, hb⟩)
  go_ret
  exact ⟨rfl, below_then ((Below.refl _ _).alloc (Nat.le_refl _) _) (by simp) hb⟩
set_option maxHeartbeats 1000000 in
set_option maxRecDepth 100000 in
theorem near (C : Array Value) (T : Nat → B32) (hC : C = arrC T) (x : B32) (s : ByteArray) (hs : s.size ≤ 5000) (w : World) :
    Calls Try.prog 4 #[.agg C, .int .u32 (iv x), .string s] w fun e w' => e = .returned (.bool true) ∧ Below w.heap.size w w' := by
  have e1 : decide (5000 < (s.size : Int)) = false := decide_eq_false (by omega)
  have hsz : C.size = 256 := by rw [hC, arrC_size]
  have HC := Lib.hid hC
  clear hC
  go_enter Try.func4, Try.ntmps4
  go_wp2_with (go_at_call 8; refine (awake_any _).mono ?_; rintro e w1 ⟨rfl, hb⟩)
  have hT1 : TabAt w1 ⟨w.heap.size, 0, none⟩ T := tab_below hb (HC.out ▸ tab_arr w 25 T : TabAt (w.alloc (.cells C 25)) ⟨w.heap.size, 0, none⟩ T)
  have hg1 : w1.heap[w.heap.size]? = some (.cells C 25 (0, 0)) := (hb.block _ (by simp)).trans (heap_alloc_new w _)
  have HT := Lib.hid hT1
  have HB := Lib.hid (below_then ((Below.refl w.heap.size w).alloc (Nat.le_refl _) (.cells C 25)) (by simp) hb)
  obtain ⟨a, ha⟩ : ∃ a : Addr, a = ⟨w.heap.size, 0, none⟩ := ⟨_, rfl⟩
  obtain ⟨N, hN⟩ : ∃ N : Nat, N = 256 := ⟨_, rfl⟩
  have hso : ∀ W, (sizeOf 25).run Try.prog W = .ok N W := by
    intro W
    rw [hN]
    exact size25 W
  have hld : ∀ W : World, W.heap = w1.heap → (loadCellsFrom a 0 N #[]).run Try.prog W = .ok C W := by
    intro W hW
    rw [ha]
    exact load_at W _ 25 C (0, 0) N (by rw [hW]; exact hg1) (by rw [hN]; exact hsz)
  have hl0 := hld w1.drew rfl
  have hl1 : ∀ n, (loadCellsFrom a 0 N #[]).run Try.prog (w1.drewN n) = .ok C (w1.drewN n) := fun n => hld _ rfl
  rw [← ha] at HT ⊢
  clear hT1 hg1 hb ha hld hN
  go_region_with (first | (go_at_call 12; refine (update_at _ _ T (by repeat (first | exact HT.out | apply tab_drewN)) _ _ (by omega)).mono ?_; rintro e w2 ⟨rfl, ⟨nd, rfl⟩⟩) | (go_at_call 15; refine (through_any _ _ T HC.out _ _ (by omega)).mono ?_; rintro e w3 ⟨rfl, hb3⟩))
  all_goals
    go_wp2
    go_ret
    refine ⟨rfl, below_then (B := w.heap.size) ?_ ?_ hb3⟩
    · exact below_of HB.out ⟨⟨_, rfl⟩⟩
    · exact HB.out.size
/-- A table's words. -/
theorem arr_of (zs : List Int) (hl : zs.length = 256) (hz : ∀ z ∈ zs, 0 ≤ z ∧ z < 4294967296) : (zs.map fun z => Value.int .u32 z).toArray = arrC (fun i => BitVec.ofNat 32 (zs.getD i 0).toNat) := by
  apply Array.ext
  · simp [arrC, hl]
  · intro i h1 h2
    have hi : i < zs.length := by simpa using h1
    simp only [arrC, Array.getElem_ofFn, List.getElem_toArray, List.getElem_map]
    have hb := hz zs[i] (List.getElem_mem hi)
    rw [List.getD_eq_getElem?_getD, List.getElem?_eq_getElem hi, Option.getD_some, ← iv_of hb.1 hb.2]
theorem walk (zs : List Int) (hl : zs.length = 256) (hz : ∀ z ∈ zs, (Lit.int .u32 z).wf = true) (x : Int) (s : ByteArray) (w1 : (Lit.int .u32 x).wf = true) (w2 : s.size ≤ 140737488351232) (w : World) :
    Calls Try.prog 4 #[.agg (zs.map fun z => Value.int .u32 z).toArray, .int .u32 x, .string s] w fun e w' => e = .returned (.bool true) ∧ Below w.heap.size w w' := by
  have b := bounds_u32 w1
  have hC := arr_of zs hl (fun z h => by have := bounds_u32 (hz z h); omega)
  rw [iv_of b.1 (by omega)]
  by_cases h : 5000 < s.size
  · exact far _ _ s (by simp [hl]) h w
  · exact near _ _ hC _ s (by omega) w
/-- A number's own: what a cell of an integer's kind holds. -/
def numOf : Value → Int
  | .int _ z => z
  | _ => 0
/-- An array of integers that came in, opened. -/
theorem open_arr {H : Type} {enc : TypeId × Value → H} {P : Program} {W : World} {base b : Nat} {sp : Nat → Bool} {held : Bool} {t e : TypeId} {n : Nat} {k : IntKind} {v : Value} {d : DataW H} {p : List MemPlace}
    (ht : P.underlying t = some (.array n e)) (he : P.underlying e = some (.int k)) (hce : P.cellsOf e = 1) (hct : P.cellsOf t = n)
    (hval : Value.okWide P W .any base t v) (h : DataW.Trod enc P W b sp held t v d p) :
    ∃ zs : List Int, v = .agg (zs.map fun z => Value.int k z).toArray ∧ zs.length = n ∧ ∀ z ∈ zs, (Lit.int k z).wf = true := by
  obtain ⟨cs, rfl, hsz⟩ : ∃ cs, v = .agg cs ∧ cs.size = n := by
    unfold Value.okWide at hval
    rw [ht] at hval
    obtain ⟨cs, rfl, hs, _⟩ := hval
    exact ⟨cs, rfl, by rw [hs, hct]⟩
  obtain ⟨fuel, hf⟩ := h
  obtain ⟨xs, m, _, _, _, hxl, hx⟩ := DataW.trod_array ht hf
  have key : ∀ i (hi : i < n), ∃ z, cs[i]'(by omega) = Value.int k z ∧ (Lit.int k z).wf = true := by
    intro i hi
    have h1 := hx i hi
    rw [List.getElem?_eq_getElem (by omega)] at h1
    obtain ⟨z, hz, _, hw⟩ := DataW.trod_int he h1
    refine ⟨z, ?_, hw⟩
    rw [hce, Nat.mul_one] at hz
    have h2 : (((Value.agg cs).cells.toList.drop i).take 1)[0]? = some (Value.int k z) := by rw [hz]; rfl
    simp only [Value.cells, List.getElem?_take, List.getElem?_drop] at h2
    rw [if_pos (by omega), Nat.add_zero, Array.getElem?_toList, Array.getElem?_eq_getElem (by omega)] at h2
    exact Option.some.inj h2
  have hl : (cs.toList.map numOf).length = n := by simp [hsz]
  have heq : cs = ((cs.toList.map numOf).map fun z => Value.int k z).toArray := by
    apply Array.ext
    · simp
    · intro i h1 h2
      obtain ⟨z, hz, _⟩ := key i (by omega)
      simp [hz, numOf]
  refine ⟨cs.toList.map numOf, by rw [← heq], hl, ?_⟩
  intro z hz
  obtain ⟨v, hv, rfl⟩ := List.mem_map.1 hz
  obtain ⟨i, hi, rfl⟩ := List.mem_iff_getElem.1 hv
  obtain ⟨z, hz', hw⟩ := key i (by simpa [hsz] using hi)
  rw [Array.getElem_toList, hz']
  exact hw
end Go.Proofs.Ytgdmekmnpbniaaa.TablesWalk
