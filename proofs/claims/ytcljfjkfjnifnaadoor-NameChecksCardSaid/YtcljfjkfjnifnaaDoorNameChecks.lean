/- The walk of NameChecks: the path of any name, or why it may be none, against the document's answer. -/
import Derived.Test.YtcljfjkfjnifnaaDoorNameCheckRef
import Derived.Test.YtcljfjkfjnifnaaDoorNameKeeps
set_option linter.unusedVariables false
set_option linter.unusedSimpArgs false
namespace Go.Proofs.YtcljfjkfjnifnaaDoor.NameChecks
open Go.RowKit Go.Proofs.YtcljfjkfjnifnaaDoorW.PrintWords Go.Proofs.YtcljfjkfjnifnaaDoorW.PrintLast Go.Proofs.YtcljfjkfjnifnaaDoor.NameLaw Go.Proofs.YtcljfjkfjnifnaaDoor.NameCmp Go.Proofs.YtcljfjkfjnifnaaDoor.NameWalk Go.Proofs.YtcljfjkfjnifnaaDoor.NameOrd Go.Proofs.YtcljfjkfjnifnaaDoor.NameRef Go.Proofs.YtcljfjkfjnifnaaDoor.NameParts Go.Proofs.YtcljfjkfjnifnaaDoor.NameAny Go.Proofs.YtcljfjkfjnifnaaDoor.NameKeepLaw Go.Proofs.YtcljfjkfjnifnaaDoor.NameKeeps Go.Proofs.YtcljfjkfjnifnaaDoor.NameCheckRef

theorem rcheck_next {w w1 : World} (HB : Hid (Below w.heap.size w w1)) (s : ByteArray) (hs : s.size ≤ 90000) :
    Calls Tryd.prog 13 #[.string s] w1 fun e w' => e = .returned (.tuple #[.string (checkP s), .bool (checkD s), .int .i64 (checkE s)]) ∧ Hid (Below w.heap.size w w') :=
  (PNm.portmanteauref10_Check.calls (5 * s.size + 51) s _ _ _ w1 (rcheck_f _ s hs (by omega))).mono fun _ _ h => ⟨h.1, Lib.hid (below_next HB.out h.2)⟩
set_option maxHeartbeats 400000 in
theorem far (a : ByteArray) (more : Bool) (h : 3000 < a.size) (w : World) (hg : Glob w) :
    Calls Tryd.prog 3 #[.string a, .bool more] w fun e w' => e = .returned (.bool true) ∧ Below w.heap.size w w' := by
  have HG := Lib.hid hg
  clear hg
  have e1 : decide (3000 < (a.size : Int)) = true := decide_eq_true (by omega)
  clear h
  go_enter Tryd.func3, Tryd.ntmps3
  go_wp2_with (go_at_call 11; refine (awake_any _ HG.out).mono ?_; rintro e w1 ⟨rfl, hb⟩)
  go_ret
  exact ⟨rfl, hb⟩
set_option maxHeartbeats 400000 in
theorem plain (a : ByteArray) (h : a.size ≤ 3000) (w : World) (hg : Glob w) :
    Calls Tryd.prog 3 #[.string a, .bool false] w fun e w' => e = .returned (.bool true) ∧ Below w.heap.size w w' := by
  have HG := Lib.hid hg
  clear hg
  have e1 : decide (3000 < (a.size : Int)) = false := decide_eq_false (by omega)
  go_enter Tryd.func3, Tryd.ntmps3
  go_wp2_with (first | (go_at_call 11; refine (awake_next _ HG).mono ?_; rintro e w1 ⟨rfl, HB⟩) | (go_at_call 12; refine (check_next HG HB a (by omega)).mono ?_; clear HB; rintro e w1 ⟨rfl, HB⟩) | (go_at_call 13; refine (rcheck_next HB a (by omega)).mono ?_; clear HB; rintro e w1 ⟨rfl, HB⟩))
  go_ret
  exact ⟨by simp, HB.out⟩
theorem infoB : (Tryd.prog.info? 5).map (fun i => (i.zero, i.size, i.bytes)) = some (some (.int .u8 0), 1, 1) := by kernel_rfl
/-- A row of zeros is made. -/
theorem make_bytes (w : World) (n : Nat) (hn : n ≤ 100000) : ∃ w1, (Instr.makeSlice 23 (.int .i64 (n : Int)) (.int .i64 (n : Int))).run Tryd.prog w = .ok (.slice (some ⟨w.heap.size, 0, none⟩) n n) w1 ∧ Below w.heap.size w w1 ∧
    (convert 23 9 (.slice (some ⟨w.heap.size, 0, none⟩) n n)).run Tryd.prog w1 = .ok (.string ⟨(List.replicate n (0 : UInt8)).toArray⟩) w1 := by
  obtain ⟨i, hi, h⟩ := Option.map_eq_some_iff.1 infoB
  obtain ⟨h1, h2, h3⟩ : i.zero = some (.int .u8 0) ∧ i.size = 1 ∧ i.bytes = 1 := by
    have := congrArg (·.1) h; have h2 := congrArg (·.2.1) h; have h3 := congrArg (·.2.2) h
    exact ⟨this, h2, h3⟩
  have hr := run_makeSlice (P := Tryd.prog) (w := w) 23 5 i (.int .u8 0) (by kernel_rfl) hi h1 .i64 .i64 (n : Int) (n : Int) (by omega) (by omega) (by rw [h2]; omega) (by rw [h3]; omega) (by omega)
  rw [Int.toNat_natCast] at hr
  refine ⟨_, hr, (Below.refl _ _).alloc (Nat.le_refl _) _, ?_⟩
  have hb := run_convert_bytes_back (P := Tryd.prog) (w.alloc (.cells (madeCells (Value.int .u8 0).cells (n * i.size)) 5)) 23 9 5 ⟨w.heap.size, 0, none⟩ n (List.replicate n (0 : UInt8)) (by kernel_rfl) (by kernel_rfl) (by kernel_rfl) (by
    intro j hj
    rw [List.length_replicate] at hj
    rw [add_plain, cell_of_row _ _ _ _ _ _ (heap_alloc_new w _), h2]
    simp [madeCells, Value.cells, hj, Nat.mod_one])
  rw [List.length_replicate] at hb
  exact hb
theorem check_long {w w1 : World} (HG : Hid (Glob w)) (HB : Hid (Below w.heap.size w w1)) (s : ByteArray) (hs : s.size = 65536) :
    Calls Tryd.prog 12 #[.string s] w1 fun e w' => e = .returned (.tuple #[.string (checkP s), .bool (checkD s), .int .i64 (checkE s)]) ∧ Hid (Below w.heap.size w w') := check_next HG HB s (by omega)
set_option maxHeartbeats 400000 in
set_option maxRecDepth 100000 in
theorem padded (a : ByteArray) (h : a.size ≤ 3000) (w : World) (hg : Glob w) :
    Calls Tryd.prog 3 #[.string a, .bool true] w fun e w' => e = .returned (.bool true) ∧ Below w.heap.size w w' := by
  have HG := Lib.hid hg
  clear hg
  have e1 : decide (3000 < (a.size : Int)) = false := decide_eq_false (by omega)
  obtain ⟨n, hn⟩ : ∃ n : Nat, n = 65536 - a.size := ⟨_, rfl⟩
  have hm : (65536 : Int) - (a.size : Int) = (n : Int) := by omega
  obtain ⟨Z, hZ⟩ : ∃ Z : ByteArray, Z = ⟨(List.replicate n (0 : UInt8)).toArray⟩ := ⟨_, rfl⟩
  have hZs : Z.size = n := by rw [hZ, Lib.size_eq]; simp
  have hsum : (a ++ Z).size = 65536 := by rw [ByteArray.size_append]; omega
  have hok : a.size + Z.size ≤ 9223372036854775807 := by omega
  have hw : wrap64 (65536 - (a.size : Int)) = (n : Int) := by unfold wrap64; omega
  have hn1 : n ≤ 100000 := by omega
  have HZ := Lib.hid hZ
  clear hn hZ
  go_enter Tryd.func3, Tryd.ntmps3
  go_wp2_with (first | (go_at_call 11; refine (awake_next _ HG).mono ?_; rintro e w1 ⟨rfl, HB⟩; obtain ⟨w2, hmk, hb2, hcv⟩ := make_bytes w1 n hn1; rw [← HZ.out] at hcv; have HB2 := Lib.hid (below_next HB.out hb2); clear hb2 HB) | (go_at_call 12; refine (check_long HG HB2 (a ++ Z) hsum).mono ?_; clear HB2; rintro e w3 ⟨rfl, HB3⟩) | (go_at_call 13; refine (rcheck_next HB3 (a ++ Z) (by omega)).mono ?_; clear HB3; rintro e w4 ⟨rfl, HB4⟩))
  go_ret
  exact ⟨by simp, HB4.out⟩
theorem walk (a : ByteArray) (more : Bool) (w0 : a.size ≤ 140737488351232) (w : World) (hg : Glob w) :
    Calls Tryd.prog 3 #[.string a, .bool more] w fun e w' => e = .returned (.bool true) ∧ Below w.heap.size w w' := by
  by_cases h : 3000 < a.size
  · exact far a more h w hg
  · cases more
    · exact plain a (by omega) w hg
    · exact padded a (by omega) w hg
end Go.Proofs.YtcljfjkfjnifnaaDoor.NameChecks
