/- disk: a disk is awake: New, Make, Write, Rename, a crash that keeps two, Stat; and all calls at a disk that is none. -/
import Derived.Test.YtfogfkikkekmkaaDoorDiskStat
set_option linter.unusedVariables false
set_option linter.unusedSimpArgs false
namespace Go.Proofs.YtfogfkikkekmkaaDoor.DiskNil
open Go.RowKit Go.Proofs.YtfogfkikkekmkaaDoorW.PrintWords Go.Proofs.YtfogfkikkekmkaaDoorW.PrintLast Go.Proofs.YtfogfkikkekmkaaDoorW.PrintMore Go.Proofs.YtfogfkikkekmkaaDoor.NameWalk Go.Proofs.YtfogfkikkekmkaaDoor.Item Go.Proofs.YtfogfkikkekmkaaDoor.DiskAt Go.Proofs.YtfogfkikkekmkaaDoor.DiskReal Go.Proofs.YtfogfkikkekmkaaDoor.DiskSmall Go.Proofs.YtfogfkikkekmkaaDoor.DiskRows Go.Proofs.YtfogfkikkekmkaaDoor.DiskDone Go.Proofs.YtfogfkikkekmkaaDoor.DiskWait Go.Proofs.YtfogfkikkekmkaaDoor.DiskActs Go.Proofs.YtfogfkikkekmkaaDoor.DiskKept Go.Proofs.YtfogfkikkekmkaaDoor.DiskStat

abbrev tH : ByteArray := ⟨#[104, 105]⟩
abbrev iA : It := (tA, 2, 0, 0, 0, 0, 0, ⟨#[]⟩)
abbrev iH : It := (tA, 2, 0, 0, 0, 0, 0, tH)
abbrev iB : It := (tB, 2, 0, 0, 0, 0, 0, tH)
abbrev c0 : Ch := (0, tA, ⟨#[]⟩, (2, 0, 0, 0, 0, 0, ⟨#[]⟩), false)
abbrev c1 : Ch := (1, tA, ⟨#[]⟩, (0, 0, 0, 0, 0, 0, tH), false)
abbrev c2 : Ch := (3, tA, tB, (0, 0, 0, 0, 0, 0, ⟨#[]⟩), false)
theorem h0 : hereP [] tA = false := by decide +kernel
theorem p0 : placeP [] tA = 0 := by decide +kernel
theorem h1 : hereP [iA] tA = true := by decide +kernel
theorem p1 : placeP [iA] tA = 0 := by decide +kernel
theorem h2 : hereP [iH] tA = true := by decide +kernel
theorem p2 : placeP [iH] tA = 0 := by decide +kernel
theorem hb0 : hereP [] tB = false := by decide +kernel
theorem pb0 : placeP [] tB = 0 := by decide +kernel
theorem k0 : kindP [] tA = 0 := by decide +kernel
theorem k1 : kindP [iA] tA = 2 := by decide +kernel
theorem k2 : kindP [iH] tA = 2 := by decide +kernel
theorem kb : kindP [iH] tB = 0 := by decide +kernel
theorem nA : tA.toList ≠ [] := by decide +kernel
theorem nB : tB.toList ≠ [] := by decide +kernel
theorem neAB : (tA.toList == tB.toList) = false := by decide +kernel
theorem f0 : decide ((100 : Int) < 0 + sumP tA []) = false := by decide +kernel
theorem f1 : decide ((100 : Int) < (tH.size : Int) + sumP tA [iA]) = false := by decide +kernel
def lsK : Nat → List It | 0 => [] | 1 => [iA] | _ => [iH]
theorem put1 (r : Nat) (hr : r = 0) (h : r < [iA].length) : cellsI iH = (cellsI ([iA][r]'h)).set 7 (.string tH) := by subst hr; rfl
theorem move_iH {W0 W' : World} {vs : Value} (hg : Glob W0) (hb : Below W0.heap.size W0 W') (h : itemK.R 57 W' W0.heap.size (fun _ => True) vs [iH]) :
    Calls Tryd.prog 43 #[vs, .agg #[.int .i64 3, .string tA, .string tB, .int .i64 0, .int .u32 0, .int .u32 0, .int .u32 0, .int .i64 0, .int .i64 0, .string ⟨#[]⟩, .bool false]] W' fun e w' => ∃ v1, e = .returned v1 ∧ RowPost W0.heap.size W' w' vs v1 [iB] := by
  obtain ⟨inner, hown⟩ := Kd.R_own h
  rcases hown.2 with ⟨e, hn⟩ | ⟨g, cap, cur, e, _⟩
  · exact absurd hn (by decide)
  · subst e
    exact done_move W0 hg g cap [iH] tA tB 0 0 0 0 0 0 ⟨#[]⟩ false W' hb h (by decide) (by decide) (by decide) (by decide) 0 p2 h2 (by decide) neAB tA 2 0 0 0 0 0 tH rfl hb0 pb0
set_option maxHeartbeats 8000000 in
set_option maxRecDepth 100000 in
theorem awake_true (w : World) (hg : Glob w) : Calls Tryd.prog 19 #[] w fun e w' => e = .returned (.bool true) ∧ Below w.heap.size w w' := by
  have HG := Lib.hid hg
  clear hg
  go_enter Tryd.func19, Tryd.ntmps19
  go_wp2_with fail
  refine (new_ok 100 w).mono ?_
  rintro e W1 ⟨b, rfl, hd1, hb1⟩
  have HF := Lib.hid (show Fine w W1 b _ _ _ [] [] [] 100 (-1) 0 0 from ⟨hd1, hb1, HG.out, by decide, by decide, by omega, by omega, by decide, by decide, by decide, by decide⟩)
  have HB := Lib.hid hb1
  clear hd1 hb1
  go_wp2_with fail
  refine (make_file w W1 b _ _ _ [] [] [] 100 (-1) 0 0 HF.out tA one_A nA k0 f0 h0 p0).mono ?_
  rintro e W2 ⟨rfl, ⟨vs2, vq2, hd2⟩, hb2⟩
  have HF2 := Lib.hid (show Fine w W2 b _ vs2 vq2 [] [iA] [c0] 100 (-1) 0 1 from ⟨hd2, hb2, HG.out, by decide, by decide, by omega, by omega, by decide, by decide, by decide, by decide⟩)
  clear hd2 hb2 HF
  go_wp2_with fail
  refine (write_ok w W2 b _ vs2 vq2 [] [iA] [c0] 100 (-1) 0 1 HF2.out tA tH one_A nA k1 (by decide) f1 h1 (by rw [p1]; decide) iH (put1 _ p1 _)).mono ?_
  rintro e W3 ⟨rfl, ⟨vs3, vq3, hd3⟩, hb3⟩
  rw [p1] at hd3
  have HF3 := Lib.hid (show Fine w W3 b _ vs3 vq3 [] [iH] [c0, c1] 100 (-1) 0 2 from ⟨hd3, hb3, HG.out, by decide, by decide, by omega, by omega, by decide, by decide, by decide, by decide⟩)
  clear hd3 hb3 HF2
  go_wp2_with fail
  refine (rename_ok w W3 b _ vs3 vq3 [] [iH] [iB] [c0, c1] 100 (-1) 0 2 HF3.out tA tB one_A nA one_B nB k2 kb (fun W' hb h => move_iH HG.out hb h)).mono ?_
  rintro e W4 ⟨rfl, ⟨vs4, vq4, hd4⟩, hb4⟩
  have HD4 : Hid (DAt W4 w.heap.size b _ vs4 vq4 (lsK 0) [iB] [c0, c1, c2] 100 (-1) 0 3 false) := Lib.hid hd4
  have HB4 := Lib.hid hb4
  clear hd4 hb4 HF3
  go_wp2_with fail
  have HC := Lib.hid (crash_two w HG.out b _ vs4 vq4 [] [iB] [c0, c1, c2] rfl 100 (-1) 0 3 false lsK W4 HB4.out HD4.out (fun k x hk hx W' v hb hr => by
      match k, hk with
      | 0, _ =>
        injection hx with hx
        subst hx
        exact done_put w.heap.size v [] tA ⟨#[]⟩ 2 0 0 0 0 0 ⟨#[]⟩ false W' (HG.out.below hb) hr hb.size (by decide) (by decide) (by decide) h0 p0
      | 1, _ =>
        injection hx with hx
        subst hx
        have h := done_fill w.heap.size v [iA] tA ⟨#[]⟩ 0 0 0 0 0 0 tH false W' (HG.out.below hb) hr (by decide) (by decide) (by decide) h1 (by rw [p1]; decide) iH (put1 _ p1 _)
        rw [p1] at h
        exact h) (fun k x hk hx => by
      match k, hk with
      | 0, _ =>
        injection hx with hx
        subst hx
        exact ⟨rfl, .inr ⟨rfl, rfl⟩⟩
      | 1, _ =>
        injection hx with hx
        subst hx
        exact ⟨rfl, .inl rfl⟩) (by decide))
  refine HC.out.mono ?_
  rintro e W5 ⟨rfl, ⟨vl5, vs5, vq5, hd5⟩, hb5⟩
  have HF5 := Lib.hid (show Fine w W5 b vl5 vs5 vq5 [iH] [iH] [] 100 (-1) 0 3 from ⟨hd5, hb5, HG.out, by decide, by decide, by omega, by omega, by decide, by decide, by decide, by decide⟩)
  clear hd5 hb5 HD4 HB4 HC
  go_wp2_with fail
  refine (stat_ok w W5 b vl5 vs5 vq5 [iH] [iH] [] 100 (-1) 0 3 HF5.out tA one_A h2 0 p2 2 0 0 0 0 0 tH rfl).mono ?_
  rintro e W6 ⟨rfl, hb6⟩
  have HB6 := Lib.hid (HF5.out.bel.trans (hb6.mono HF5.out.bel.size))
  clear hb6 HF5
  go_wp2
  go_ret
  exact ⟨rfl, HB6.out.trans ((below_one W6 _).mono HB6.out.size)⟩
set_option maxHeartbeats 8000000 in
set_option maxRecDepth 100000 in
theorem walk (w : World) (hg : Glob w) : Calls Tryd.prog 4 #[] w fun e w' => e = .returned (.bool true) ∧ Below w.heap.size w w' := by
  have HG := Lib.hid hg
  have HB := Lib.hid (Below.refl w.heap.size w)
  clear hg
  go_enter Tryd.func4, Tryd.ntmps4
  go_wp2_with fail
  refine (fuse_nil w).mono ?_
  rintro e W1 ⟨rfl, hb1⟩
  have HB := Lib.hid (HB.out.trans (hb1.mono HB.out.size))
  clear hb1
  go_wp2_with fail
  refine (fail_nil _).mono ?_
  rintro e W2 ⟨rfl, hb2⟩
  have HB := Lib.hid (HB.out.trans (hb2.mono HB.out.size))
  clear hb2
  go_wp2_with fail
  refine (crash_nil _).mono ?_
  rintro e W3 ⟨rfl, hb3⟩
  have HB := Lib.hid (HB.out.trans (hb3.mono HB.out.size))
  clear hb3
  go_wp2_with fail
  refine (stat_nil tA _).mono ?_
  rintro e W4 ⟨rfl, hb4⟩
  have HB := Lib.hid (HB.out.trans (hb4.mono HB.out.size))
  clear hb4
  have HB := Lib.hid (HB.out.trans ((below_one W4 (.cells #[.int .i64 0, .int .u32 0, .int .u32 0, .int .u32 0, .int .i64 0, .int .i64 0, .string ⟨#[]⟩] 25)).mono HB.out.size))
  go_wp2_with fail
  refine (list_nil _).mono ?_
  rintro e W5 ⟨rfl, hb5⟩
  have HB := Lib.hid (HB.out.trans (hb5.mono HB.out.size))
  clear hb5
  go_wp2_with fail
  refine (real_nil tA _).mono ?_
  rintro e W6 ⟨rfl, hb6⟩
  have HB := Lib.hid (HB.out.trans (hb6.mono HB.out.size))
  clear hb6
  go_wp2_with fail
  refine (awake_true _ (HG.out.below HB.out)).mono ?_
  rintro e W7 ⟨rfl, hb7⟩
  have HB := Lib.hid (HB.out.trans (hb7.mono HB.out.size))
  clear hb7
  go_wp2_with fail
  refine (make_nil _).mono ?_
  rintro e W8 ⟨rfl, hb8⟩
  have HB := Lib.hid (HB.out.trans (hb8.mono HB.out.size))
  clear hb8
  go_wp2_with fail
  refine (flush_nil _).mono ?_
  rintro e W9 ⟨rfl, hb9⟩
  have HB := Lib.hid (HB.out.trans (hb9.mono HB.out.size))
  clear hb9
  go_wp2_with fail
  refine (rename_nil _).mono ?_
  rintro e W10 ⟨rfl, hb10⟩
  have HB := Lib.hid (HB.out.trans (hb10.mono HB.out.size))
  clear hb10
  go_wp2_with fail
  refine (all_nil _).mono ?_
  rintro e W11 ⟨rfl, hb11⟩
  have HB := Lib.hid (HB.out.trans (hb11.mono HB.out.size))
  clear hb11
  go_wp2_with fail
  refine (lasts_nil _).mono ?_
  rintro e W12 ⟨rfl, hb12⟩
  have HB := Lib.hid (HB.out.trans (hb12.mono HB.out.size))
  clear hb12
  go_wp2_with fail
  refine (waits_nil _).mono ?_
  rintro e W13 ⟨rfl, hb13⟩
  have HB := Lib.hid (HB.out.trans (hb13.mono HB.out.size))
  clear hb13
  go_wp2_with fail
  refine (steps_nil _).mono ?_
  rintro e W14 ⟨rfl, hb14⟩
  have HB := Lib.hid (HB.out.trans (hb14.mono HB.out.size))
  clear hb14
  go_wp2
  go_ret
  exact ⟨rfl, HB.out⟩
end Go.Proofs.YtfogfkikkekmkaaDoor.DiskNil
