/- TreeDoes, walked: whatever the items, the path, the nodes, the law answers true. -/
import Derived.Test.YtpjjooiamdfmfaaGreatDoorTreeDiff
import Derived.Test.YtpjjooiamdfmfaaGreatDoorTreeRFill
import Derived.Test.YtpjjooiamdfmfaaGreatDoorTreeFill
import Derived.Test.YtpjjooiamdfmfaaGreatDoorTreeAwake
import Derived.Test.YtpjjooiamdfmfaaGreatDoorItemArg
set_option linter.unusedVariables false
set_option linter.unusedSimpArgs false
namespace Go.Proofs.YtpjjooiamdfmfaaGreatDoor.TreeDoes
open Go.RowKit Go.ChangeShapes Go.WideShapes Go.Proofs.YtpjjooiamdfmfaaGreatDoorW.PrintWords Go.Proofs.YtpjjooiamdfmfaaGreatDoorW.PrintLast Go.Proofs.YtpjjooiamdfmfaaGreatDoorW.PrintMore Go.Proofs.YtpjjooiamdfmfaaGreatDoor.Item Go.Proofs.YtpjjooiamdfmfaaGreatDoor.Own Go.Proofs.YtpjjooiamdfmfaaGreatDoor.TreeLaw Go.Proofs.YtpjjooiamdfmfaaGreatDoor.NameLaw Go.Proofs.YtpjjooiamdfmfaaGreatDoor.NameWalk Go.Proofs.YtpjjooiamdfmfaaGreatDoor.NameOrd Go.Proofs.YtpjjooiamdfmfaaGreatDoor.NameRef Go.Proofs.YtpjjooiamdfmfaaGreatDoor.NameUse Go.Proofs.YtpjjooiamdfmfaaGreatDoor.SortIns Go.Proofs.YtpjjooiamdfmfaaGreatDoor.TreeFn Go.Proofs.YtpjjooiamdfmfaaGreatDoor.NodeRes Go.Proofs.YtpjjooiamdfmfaaGreatDoor.Tree Go.Proofs.YtpjjooiamdfmfaaGreatDoor.TreeRef Go.Proofs.YtpjjooiamdfmfaaGreatDoor.TreeRight Go.Proofs.YtpjjooiamdfmfaaGreatDoor.TreeTright Go.Proofs.YtpjjooiamdfmfaaGreatDoor.TreeNodes Go.Proofs.YtpjjooiamdfmfaaGreatDoor.FillLaw Go.Proofs.YtpjjooiamdfmfaaGreatDoor.TreeFill Go.Proofs.YtpjjooiamdfmfaaGreatDoor.RSort Go.Proofs.YtpjjooiamdfmfaaGreatDoor.DiffLaw Go.Proofs.YtpjjooiamdfmfaaGreatDoor.TreeRef2 Go.Proofs.YtpjjooiamdfmfaaGreatDoor.TreeRFill Go.Proofs.YtpjjooiamdfmfaaGreatDoor.TreeRDiff Go.Proofs.YtpjjooiamdfmfaaGreatDoor.TreeDiff

theorem few_spec {l : List It} (h : fewP l = true) : l.length ≤ 60 ∧ ∀ x ∈ l, x.1.size ≤ 1000 ∧ x.2.2.2.2.2.2.2.size ≤ 5000 := by
  unfold fewP at h
  rw [List.all_eq_true] at h
  have h1 : ∀ x ∈ l, l.length ≤ 60 ∧ x.1.size ≤ 1000 ∧ x.2.2.2.2.2.2.2.size ≤ 5000 := by
    intro x hx
    have h2 := h x hx
    simp [okI] at h2
    exact ⟨h2.1.1, h2.1.2, h2.2⟩
  refine ⟨?_, fun x hx => (h1 x hx).2⟩
  cases l with
  | nil => simp
  | cons x t => exact (h1 x (by simp)).1
def T19 : Bool × List (List Nat × List Nat) := (true, [([], []), ([], []), ([0, 1], [0, 1]), ([2], [2]), ([3], [3]), ([3], [3]), ([4, 5, 3], [3, 4, 5]), ([3, 6], [3, 6]), ([7, 3], [7]), ([8], [8]), ([8], [8]), ([9, 10, 8, 8], [8, 9, 10]), ([8, 11], [8, 11]), ([12, 11], [12]), ([13], [13]), ([13], [13]), ([14, 15, 13], [13, 14, 15]), ([13, 16], [13, 16]), ([17, 13], [17]), ([18], [18]), ([19, 18, 18], [18, 19]), ([18], [18]), ([21, 20, 18], [18, 21]), ([20, 22, 18], [18, 20, 22]), ([18, 23], [18, 23]), ([24, 22], [24]), ([25], [25]), ([25], [25]), ([25], [25]), ([26, 27, 28, 25, 25], [25, 26, 27, 28]), ([25], [25]), ([25], [25]), ([25], [25]), ([30, 31, 32, 29, 25], [25, 30, 31, 32]), ([29, 33, 33, 25], [25, 29, 33]), ([25, 34], [25, 34]), ([35, 34], [35]), ([36], [36]), ([36], [36]), ([37, 38, 36, 36], [36, 37, 38]), ([36], [36]), ([36], [36]), ([40, 41, 39, 36], [36, 40, 41]), ([39, 42, 42, 36], [36, 39, 42]), ([36, 43], [36, 43]), ([44, 43], [44]), ([45], [45]), ([46, 45, 45], [45, 46]), ([45], [45]), ([48, 47, 45], [45, 48]), ([47, 49, 49, 45], [45, 47, 49]), ([45, 50], [45, 50]), ([51, 50], [51]), ([52], [52]), ([53, 52, 52], [52, 53]), ([52], [52]), ([55, 54, 52], [52, 55]), ([54, 56, 52], [52, 54, 56]), ([52, 57], [52, 57]), ([58, 56], [58]), ([59], [59]), ([59], [59]), ([60, 61, 59, 59], [59, 60, 61]), ([59], [59]), ([59], [59]), ([63, 64, 62, 59], [59, 63, 64]), ([62, 65, 59], [59, 62, 65]), ([59, 66], [59, 66]), ([67, 65], [67]), ([68], [68]), ([68], [68]), ([69, 70, 68, 68], [68, 69, 70]), ([68, 71], [68, 71]), ([72, 71, 0, 1, 2, 3, 4, 5, 6, 7, 8, 9, 10, 11, 12, 13, 14, 15, 16, 17, 18, 19, 20, 21, 22, 23, 24, 25, 26, 27, 28, 29, 30, 31, 32, 33, 34, 35, 36, 37, 38, 39, 40, 41, 42, 43, 44, 45, 46, 47, 48, 49, 50, 51, 52, 53, 54, 55, 56, 57, 58, 59, 60, 61, 62, 63, 64, 65, 66, 67, 68, 69, 70, 71, 72], [72])])
def B19 : List Nat := [0, 0, 3, 7, 15, 15, 63, 127, 255, 511, 511, 2047, 4095, 8191, 16383, 16383, 65535, 131071, 262143, 524287, 1048575, 524287, 4194303, 8388607, 16777215, 33554431, 67108863, 67108863, 67108863, 536870911, 67108863, 67108863, 67108863, 8589934591, 17179869183, 34359738367, 68719476735, 137438953471, 137438953471, 549755813887, 137438953471, 137438953471, 4398046511103, 8796093022207, 17592186044415, 35184372088831, 70368744177663, 140737488355327, 70368744177663, 562949953421311, 1125899906842623, 2251799813685247, 4503599627370495, 9007199254740991, 18014398509481983, 9007199254740991, 72057594037927935, 144115188075855871, 288230376151711743, 576460752303423487, 1152921504606846975, 1152921504606846975, 4611686018427387903, 1152921504606846975, 1152921504606846975, 36893488147419103231, 73786976294838206463, 147573952589676412927, 295147905179352825855, 590295810358705651711, 590295810358705651711, 2361183241434822606847, 4722366482869645213695, 9444732965739290427391]
set_option maxRecDepth 100000 in
theorem tab19 : rtab .any (opsOf Tryz.f5 19) = T19 := by kernel_rfl
theorem bits19 : waitsOk T19.2 B19 = true := by kernel_rfl
theorem below_of_nil {w w1 : World} {v : Option Nat} (hg : w.grownBy w1 v) (hv : v = none := by rfl) : Below w.heap.size w w1 := by
  subst hv
  exact ⟨hg.os, hg.tape, hg.output, hg.size, fun k hk => hg.block k hk (by simp)⟩
theorem same_refl (l : List It) (A : Option Addr) (c : Nat) (B : Option Addr) (d : Nat) (w : World) (hl : ItemC w A l) (hm : ItemC w B l) :
    Calls Tryz.prog 11 #[.slice A l.length c, .slice B l.length d] w fun e w' => e = .returned (.bool true) ∧ Below w.heap.size w w' := by
  have h := same_any l l A c B d w hl hm
  rw [decide_eq_true (rfl : l = l)] at h
  exact h
set_option maxHeartbeats 64000000 in
set_option maxRecDepth 100000 in
theorem does_any (t u : List It) (s : ByteArray) (n0 n1 n2 n3 n4 n5 : Int) (n6 : ByteArray) (d0 d1 d2 d3 d4 d5 : Int) (d6 : ByteArray) (A : Option Addr) (c : Nat) (Bd : Option Addr) (d : Nat) (W : World) (hg : Glob W) (ht : ItemC W A t) (hu : ItemC W Bd u) :
    Calls Tryz.prog 5 #[.slice A t.length c, .slice Bd u.length d, .string s, .agg #[.int .i64 n0, .int .u32 n1, .int .u32 n2, .int .u32 n3, .int .i64 n4, .int .i64 n5, .string n6], .agg #[.int .i64 d0, .int .u32 d1, .int .u32 d2, .int .u32 d3, .int .i64 d4, .int .i64 d5, .string d6]] W fun e w' => e = .returned (.bool true) ∧ Below W.heap.size W w' := by
  have hb1 := below_one W (.cells #[.int .i64 n0, .int .u32 n1, .int .u32 n2, .int .u32 n3, .int .i64 n4, .int .i64 n5, .string n6] 31)
  have hb2 := below_one (W.alloc (.cells #[.int .i64 n0, .int .u32 n1, .int .u32 n2, .int .u32 n3, .int .i64 n4, .int .i64 n5, .string n6] 31)) (.cells #[.int .i64 d0, .int .u32 d1, .int .u32 d2, .int .u32 d3, .int .i64 d4, .int .i64 d5, .string d6] 31)
  have HB0 := Lib.hid (below_next hb1 hb2)
  have HG := Lib.hid (hg.below HB0.out)
  have HT := Lib.hid (Kd.C_below ht HB0.out)
  have HU := Lib.hid (Kd.C_below hu HB0.out)
  have HN := Lib.hid ((hb2.block _ (by simp)).trans (heap_new W (.cells #[.int .i64 n0, .int .u32 n1, .int .u32 n2, .int .u32 n3, .int .i64 n4, .int .i64 n5, .string n6] 31)))
  have hd := heap_new (W.alloc (.cells #[.int .i64 n0, .int .u32 n1, .int .u32 n2, .int .u32 n3, .int .i64 n4, .int .i64 n5, .string n6] 31)) (.cells #[.int .i64 d0, .int .u32 d1, .int .u32 d2, .int .u32 d3, .int .i64 d4, .int .i64 d5, .string d6] 31)
  rw [show (W.alloc (.cells #[.int .i64 n0, .int .u32 n1, .int .u32 n2, .int .u32 n3, .int .i64 n4, .int .i64 n5, .string n6] 31)).heap.size = W.heap.size + 1 by simp] at hd
  have HD := Lib.hid hd
  have hl1 := ht.2.1
  have hl2 := hu.2.1
  clear hb1 hb2 hd hg ht hu
  go_enter Tryz.func5, Tryz.ntmps5
  have HAW := Lib.hid (TreeAwake.awake_any _ HG.out)
  go_wp2_with fail
  generalize (W.alloc (.cells #[.int .i64 n0, .int .u32 n1, .int .u32 n2, .int .u32 n3, .int .i64 n4, .int .i64 n5, .string n6] 31)).alloc (.cells #[.int .i64 d0, .int .u32 d1, .int .u32 d2, .int .u32 d3, .int .i64 d4, .int .i64 d5, .string d6] 31) = W1 at *
  generalize hbn : W.heap.size = bn at *
  have HBN := Lib.hid hbn
  have HB0 : Hid (Below bn W W1) := HB0
  clear hbn
  have HB := Lib.hid (Below.refl W1.heap.size W1)
  refine HAW.out.mono ?_
  rintro e w1 ⟨rfl, hb⟩
  have HB := Lib.hid (below_next HB.out hb)
  have HT := Lib.hid (Kd.C_below HT.out hb)
  have HU := Lib.hid (Kd.C_below HU.out hb)
  have HN := Lib.hid ((hb.block _ (Array.getElem?_eq_some_iff.1 HN.out).1).trans HN.out)
  have HD := Lib.hid ((hb.block _ (Array.getElem?_eq_some_iff.1 HD.out).1).trans HD.out)
  clear hb HAW
  have HF1 := Lib.hid (few_any t A c w1 HT.out)
  have HS1 := Lib.hid (fun h => few_spec (l := t) h)
  generalize fewP t = f1 at *
  go_wp2_with fail
  refine (HF1.out).mono ?_
  rintro e w2 ⟨rfl, hb⟩
  have HB := Lib.hid (below_next HB.out hb)
  have HT := Lib.hid (Kd.C_below HT.out hb)
  have HU := Lib.hid (Kd.C_below HU.out hb)
  have HN := Lib.hid ((hb.block _ (Array.getElem?_eq_some_iff.1 HN.out).1).trans HN.out)
  have HD := Lib.hid ((hb.block _ (Array.getElem?_eq_some_iff.1 HD.out).1).trans HD.out)
  clear hb HF1
  cases f1 with
  | false =>
    go_wp2
    go_ret
    exact ⟨rfl, by rw [HBN.out]; have h := HBN.out; subst h; exact below_next HB0.out HB.out⟩
  | true =>
  have HF2 := Lib.hid (few_any u Bd d w2 HU.out)
  have HS2 := Lib.hid (fun h => few_spec (l := u) h)
  generalize fewP u = f2 at *
  go_wp2_with fail
  refine (HF2.out).mono ?_
  rintro e w3 ⟨rfl, hb⟩
  have HB := Lib.hid (below_next HB.out hb)
  have HT := Lib.hid (Kd.C_below HT.out hb)
  have HU := Lib.hid (Kd.C_below HU.out hb)
  have HN := Lib.hid ((hb.block _ (Array.getElem?_eq_some_iff.1 HN.out).1).trans HN.out)
  have HD := Lib.hid ((hb.block _ (Array.getElem?_eq_some_iff.1 HD.out).1).trans HD.out)
  clear hb HF2
  cases f2 with
  | false =>
    go_wp2
    go_ret
    exact ⟨rfl, by rw [HBN.out]; have h := HBN.out; subst h; exact below_next HB0.out HB.out⟩
  | true =>
  by_cases hsz : 1000 < s.size
  · have hszI : (1000 : Int) < s.size := by omega
    go_wp2
    go_ret
    exact ⟨rfl, by rw [HBN.out]; have h := HBN.out; subst h; exact below_next HB0.out HB.out⟩
  have hszI : ¬ (1000 : Int) < s.size := by omega
  have hs1 := HS1.out (by trivial)
  have hs2 := HS2.out (by trivial)
  have hn1 := hs1.1
  have hn2 := hs2.1
  have HZ1 : Hid (∀ x ∈ t, x.1.size ≤ 3000) := Lib.hid (fun x hx => by have := (hs1.2 x hx).1; omega)
  have HZ2 : Hid (∀ x ∈ u, x.1.size ≤ 3000) := Lib.hid (fun x hx => by have := (hs2.2 x hx).1; omega)
  have HY1 : Hid (∀ x ∈ t, x.2.2.2.2.2.2.2.size ≤ 5000) := Lib.hid (fun x hx => (hs1.2 x hx).2)
  clear hs1 hs2 HS1 HS2
  have HO0 : Hid (itemK.R 33 w3 W1.heap.size (fun _ => True) (.slice none 0 0) []) := Lib.hid (Kd.R_nil _ _ _ _ _)
  go_wp2_with ((with_reducible refine gate_builtin (b := .append) (xs := #[.const (.slice none 0 0), .tmp 38]) rfl ?_); at_builtin; refine Kd.R_append_rows itemK (Rr := itemK.K w3) (w0 := W1) W1.heap.size rfl (.const (.slice none 0 0)) (.tmp 38) 22 33 (.agg #[.string ByteArray.empty, .int .i64 0, .int .u32 0, .int .u32 0, .int .u32 0, .int .i64 0, .int .i64 0, .string ByteArray.empty]) 72 rfl Tryz.underlying22 infoItem rfl (by decide) (by decide) (.slice none 0 0) [] t A t.length c (fun _ => True) (fun _ => False) rfl rfl ?aO ?aR ?aK (fun _ hk => hk.elim) ?aF ?aB ?aS ?aL ?_; skip)
  case aO => exact HO0.out
  case aR => exact HT.out
  case aK => exact k_to_m
  case aF => exact (fun _ _ => trivial)
  case aB => exact HB.out
  case aS => exact HB.out.size
  case aL => first | omega | (simp; done) | (simp; omega)
  intro va w4 ho hb5 hg5 hat5
  obtain ⟨Aw, cw, hvw, _, hCw⟩ := Kd.R_reads ho
  subst hvw
  have HWS : Hid (ItemC w4 Aw t) := Lib.hid hCw
  have hb4 : Below w3.heap.size w3 w4 := below_of_nil hg5
  have HB := Lib.hid hb5
  have HT := Lib.hid (Kd.C_below HT.out hb4)
  have HU := Lib.hid (Kd.C_below HU.out hb4)
  have HN := Lib.hid ((hb4.block _ (Array.getElem?_eq_some_iff.1 HN.out).1).trans HN.out)
  have HD := Lib.hid ((hb4.block _ (Array.getElem?_eq_some_iff.1 HD.out).1).trans HD.out)
  clear ho hb5 hg5 hat5 hCw HO0 hb4
  have HFI := Lib.hid (find_any t A c s w4 HT.out (by omega))
  have HRF : Hid (∀ w', ItemC w' A t → Calls Tryz.prog 15 #[.slice A t.length c, .string s] w' fun e w2 => e = .returned (.tuple #[aggN (nodeOf (findP t s)), .bool (findP t s).isSome]) ∧ Below w'.heap.size w' w2) := Lib.hid (fun w' h => rfind_any t A c s w' h)
  generalize nodeOf (findP t s) = nd at *
  generalize (findP t s).isSome = fb at *
  obtain ⟨f0, f1, f2, f3, f4, f5, f6⟩ := nd
  unfold aggN at HFI HRF
  go_wp2_with fail
  refine (HFI.out).mono ?_
  rintro e w5 ⟨rfl, hb⟩
  have HB := Lib.hid (below_next HB.out hb)
  have HT := Lib.hid (Kd.C_below HT.out hb)
  have HU := Lib.hid (Kd.C_below HU.out hb)
  have HN := Lib.hid ((hb.block _ (Array.getElem?_eq_some_iff.1 HN.out).1).trans HN.out)
  have HD := Lib.hid ((hb.block _ (Array.getElem?_eq_some_iff.1 HD.out).1).trans HD.out)
  have HWS := Lib.hid (Kd.C_below HWS.out hb)
  clear hb HFI
  have hb := below_one w5 (.cells #[.int .i64 f0, .int .u32 f1, .int .u32 f2, .int .u32 f3, .int .i64 f4, .int .i64 f5, .string f6] 31)
  have HA := Lib.hid (heap_new w5 (.cells #[.int .i64 f0, .int .u32 f1, .int .u32 f2, .int .u32 f3, .int .i64 f4, .int .i64 f5, .string f6] 31))
  have HB := Lib.hid (below_next HB.out hb)
  have HT := Lib.hid (Kd.C_below HT.out hb)
  have HU := Lib.hid (Kd.C_below HU.out hb)
  have HN := Lib.hid ((hb.block _ (Array.getElem?_eq_some_iff.1 HN.out).1).trans HN.out)
  have HD := Lib.hid ((hb.block _ (Array.getElem?_eq_some_iff.1 HD.out).1).trans HD.out)
  have HWS := Lib.hid (Kd.C_below HWS.out hb)
  clear hb
  have HFJ := Lib.hid (HRF.out _ HT.out)
  clear HRF
  go_wp2_with fail
  generalize w5.alloc (.cells #[.int .i64 f0, .int .u32 f1, .int .u32 f2, .int .u32 f3, .int .i64 f4, .int .i64 f5, .string f6] 31) = w6 at *
  generalize w5.heap.size = ba at *
  refine HFJ.out.mono ?_
  rintro e w7 ⟨rfl, hb⟩
  have HB := Lib.hid (below_next HB.out hb)
  have HT := Lib.hid (Kd.C_below HT.out hb)
  have HU := Lib.hid (Kd.C_below HU.out hb)
  have HN := Lib.hid ((hb.block _ (Array.getElem?_eq_some_iff.1 HN.out).1).trans HN.out)
  have HD := Lib.hid ((hb.block _ (Array.getElem?_eq_some_iff.1 HD.out).1).trans HD.out)
  have HWS := Lib.hid (Kd.C_below HWS.out hb)
  have HA := Lib.hid ((hb.block _ (Array.getElem?_eq_some_iff.1 HA.out).1).trans HA.out)
  clear hb HFJ
  have hb := below_one w7 (.cells #[.int .i64 f0, .int .u32 f1, .int .u32 f2, .int .u32 f3, .int .i64 f4, .int .i64 f5, .string f6] 31)
  have HA2 := Lib.hid (heap_new w7 (.cells #[.int .i64 f0, .int .u32 f1, .int .u32 f2, .int .u32 f3, .int .i64 f4, .int .i64 f5, .string f6] 31))
  have HB := Lib.hid (below_next HB.out hb)
  have HT := Lib.hid (Kd.C_below HT.out hb)
  have HU := Lib.hid (Kd.C_below HU.out hb)
  have HN := Lib.hid ((hb.block _ (Array.getElem?_eq_some_iff.1 HN.out).1).trans HN.out)
  have HD := Lib.hid ((hb.block _ (Array.getElem?_eq_some_iff.1 HD.out).1).trans HD.out)
  have HWS := Lib.hid (Kd.C_below HWS.out hb)
  have HA := Lib.hid ((hb.block _ (Array.getElem?_eq_some_iff.1 HA.out).1).trans HA.out)
  clear hb
  have k0 : (w7.alloc (.cells #[.int .i64 f0, .int .u32 f1, .int .u32 f2, .int .u32 f3, .int .i64 f4, .int .i64 f5, .string f6] 31)).cell? ⟨(bn + 1), 0, none⟩ = some (.int .i64 d0) := by rw [cell_of HD.out]; rfl
  have k1 : (w7.alloc (.cells #[.int .i64 f0, .int .u32 f1, .int .u32 f2, .int .u32 f3, .int .i64 f4, .int .i64 f5, .string f6] 31)).cell? ⟨(bn + 1), 1, none⟩ = some (.int .u32 d1) := by rw [cell_of HD.out]; rfl
  have k2 : (w7.alloc (.cells #[.int .i64 f0, .int .u32 f1, .int .u32 f2, .int .u32 f3, .int .i64 f4, .int .i64 f5, .string f6] 31)).cell? ⟨(bn + 1), 2, none⟩ = some (.int .u32 d2) := by rw [cell_of HD.out]; rfl
  have k3 : (w7.alloc (.cells #[.int .i64 f0, .int .u32 f1, .int .u32 f2, .int .u32 f3, .int .i64 f4, .int .i64 f5, .string f6] 31)).cell? ⟨(bn + 1), 3, none⟩ = some (.int .u32 d3) := by rw [cell_of HD.out]; rfl
  have k4 : (w7.alloc (.cells #[.int .i64 f0, .int .u32 f1, .int .u32 f2, .int .u32 f3, .int .i64 f4, .int .i64 f5, .string f6] 31)).cell? ⟨(bn + 1), 4, none⟩ = some (.int .i64 d4) := by rw [cell_of HD.out]; rfl
  have k5 : (w7.alloc (.cells #[.int .i64 f0, .int .u32 f1, .int .u32 f2, .int .u32 f3, .int .i64 f4, .int .i64 f5, .string f6] 31)).cell? ⟨(bn + 1), 5, none⟩ = some (.int .i64 d5) := by rw [cell_of HD.out]; rfl
  have k6 : (w7.alloc (.cells #[.int .i64 f0, .int .u32 f1, .int .u32 f2, .int .u32 f3, .int .i64 f4, .int .i64 f5, .string f6] 31)).cell? ⟨(bn + 1), 6, none⟩ = some (.string d6) := by rw [cell_of HD.out]; rfl
  have HFL := Lib.hid (fill_any t A c d0 d1 d2 d3 d4 d5 d6 _ (HG.out.below HB.out) HT.out (by omega) HZ1.out)
  have HRFL : Hid (∀ w', ItemC w' A t → Calls Tryz.prog 19 #[.slice A t.length c, .agg #[.int .i64 d0, .int .u32 d1, .int .u32 d2, .int .u32 d3, .int .i64 d4, .int .i64 d5, .string d6]] w' fun e w2 => ∃ A2 c2, e = .returned (.tuple #[.slice A2 (fillP t (d0, d1, d2, d3, d4, d5, d6)).1.length c2, .bool (fillP t (d0, d1, d2, d3, d4, d5, d6)).2]) ∧ ItemC w2 A2 (fillP t (d0, d1, d2, d3, d4, d5, d6)).1 ∧ Below w'.heap.size w' w2) := Lib.hid (fun w' h => by have := rfill_any t A c d0 d1 d2 d3 d4 d5 d6 w' h (by omega) HZ1.out; rw [fill_same] at this; exact this)
  generalize (fillP t (d0, d1, d2, d3, d4, d5, d6)).1 = FL at *
  generalize (fillP t (d0, d1, d2, d3, d4, d5, d6)).2 = fo at *
  go_wp2_with fail
  clear k0 k1 k2 k3 k4 k5 k6
  generalize w7.alloc (.cells #[.int .i64 f0, .int .u32 f1, .int .u32 f2, .int .u32 f3, .int .i64 f4, .int .i64 f5, .string f6] 31) = w8 at *
  generalize w7.heap.size = bb at *
  refine HFL.out.mono ?_
  rintro e w9 ⟨Ac, cc, rfl, hC, hb⟩
  have HB := Lib.hid (below_next HB.out hb)
  have HT := Lib.hid (Kd.C_below HT.out hb)
  have HU := Lib.hid (Kd.C_below HU.out hb)
  have HN := Lib.hid ((hb.block _ (Array.getElem?_eq_some_iff.1 HN.out).1).trans HN.out)
  have HD := Lib.hid ((hb.block _ (Array.getElem?_eq_some_iff.1 HD.out).1).trans HD.out)
  have HWS := Lib.hid (Kd.C_below HWS.out hb)
  have HA := Lib.hid ((hb.block _ (Array.getElem?_eq_some_iff.1 HA.out).1).trans HA.out)
  have HA2 := Lib.hid ((hb.block _ (Array.getElem?_eq_some_iff.1 HA2.out).1).trans HA2.out)
  have HC1 := Lib.hid hC
  clear hb hC HFL
  have k0 : w9.cell? ⟨(bn + 1), 0, none⟩ = some (.int .i64 d0) := by rw [cell_of HD.out]; rfl
  have k1 : w9.cell? ⟨(bn + 1), 1, none⟩ = some (.int .u32 d1) := by rw [cell_of HD.out]; rfl
  have k2 : w9.cell? ⟨(bn + 1), 2, none⟩ = some (.int .u32 d2) := by rw [cell_of HD.out]; rfl
  have k3 : w9.cell? ⟨(bn + 1), 3, none⟩ = some (.int .u32 d3) := by rw [cell_of HD.out]; rfl
  have k4 : w9.cell? ⟨(bn + 1), 4, none⟩ = some (.int .i64 d4) := by rw [cell_of HD.out]; rfl
  have k5 : w9.cell? ⟨(bn + 1), 5, none⟩ = some (.int .i64 d5) := by rw [cell_of HD.out]; rfl
  have k6 : w9.cell? ⟨(bn + 1), 6, none⟩ = some (.string d6) := by rw [cell_of HD.out]; rfl
  have HFM := Lib.hid (HRFL.out w9 HT.out)
  clear HRFL
  go_wp2_with fail
  clear k0 k1 k2 k3 k4 k5 k6
  refine HFM.out.mono ?_
  rintro e w10 ⟨Ad, cd, rfl, hC, hb⟩
  have HB := Lib.hid (below_next HB.out hb)
  have HT := Lib.hid (Kd.C_below HT.out hb)
  have HU := Lib.hid (Kd.C_below HU.out hb)
  have HN := Lib.hid ((hb.block _ (Array.getElem?_eq_some_iff.1 HN.out).1).trans HN.out)
  have HD := Lib.hid ((hb.block _ (Array.getElem?_eq_some_iff.1 HD.out).1).trans HD.out)
  have HWS := Lib.hid (Kd.C_below HWS.out hb)
  have HA := Lib.hid ((hb.block _ (Array.getElem?_eq_some_iff.1 HA.out).1).trans HA.out)
  have HA2 := Lib.hid ((hb.block _ (Array.getElem?_eq_some_iff.1 HA2.out).1).trans HA2.out)
  have HC1 := Lib.hid (Kd.C_below HC1.out hb)
  have HC2 := Lib.hid hC
  clear hb hC HFM
  have HDF := Lib.hid (tdiffer_any t u A c Bd d w10 (HG.out.below HB.out) HT.out HU.out (by omega) (by omega) HZ1.out HZ2.out)
  have HRD : Hid (∀ w', ItemC w' A t → ItemC w' Bd u → Calls Tryz.prog 21 #[.slice A t.length c, .slice Bd u.length d] w' fun e w2 => ∃ v, e = .returned v ∧ Kd.string.R 9 w2 w'.heap.size (fun _ => True) v (difP t u) ∧ Below w'.heap.size w' w2) := Lib.hid (fun w' h h2 => rdiffer_any t u A c Bd d w' h h2 (by omega) (by omega) HZ1.out HZ2.out)
  have hdl : (difP t u).length ≤ 100000 ∨ True := .inr trivial
  generalize difP t u = DF at *
  go_wp2_with fail
  refine (HDF.out).mono ?_
  rintro e w11 ⟨v, rfl, hr, hb⟩
  have HB := Lib.hid (below_next HB.out hb)
  have HT := Lib.hid (Kd.C_below HT.out hb)
  have HU := Lib.hid (Kd.C_below HU.out hb)
  have HN := Lib.hid ((hb.block _ (Array.getElem?_eq_some_iff.1 HN.out).1).trans HN.out)
  have HD := Lib.hid ((hb.block _ (Array.getElem?_eq_some_iff.1 HD.out).1).trans HD.out)
  have HWS := Lib.hid (Kd.C_below HWS.out hb)
  have HA := Lib.hid ((hb.block _ (Array.getElem?_eq_some_iff.1 HA.out).1).trans HA.out)
  have HA2 := Lib.hid ((hb.block _ (Array.getElem?_eq_some_iff.1 HA2.out).1).trans HA2.out)
  have HC1 := Lib.hid (Kd.C_below HC1.out hb)
  have HC2 := Lib.hid (Kd.C_below HC2.out hb)
  obtain ⟨Al, cl, hvl, _, hCl⟩ := Kd.R_reads hr
  subst hvl
  have HL1 := Lib.hid hCl
  clear hr hCl
  clear hb HDF
  have HDG := Lib.hid (HRD.out w11 HT.out HU.out)
  go_wp2_with fail
  refine (HDG.out).mono ?_
  rintro e w12 ⟨v, rfl, hr, hb⟩
  have HB := Lib.hid (below_next HB.out hb)
  have HT := Lib.hid (Kd.C_below HT.out hb)
  have HU := Lib.hid (Kd.C_below HU.out hb)
  have HN := Lib.hid ((hb.block _ (Array.getElem?_eq_some_iff.1 HN.out).1).trans HN.out)
  have HD := Lib.hid ((hb.block _ (Array.getElem?_eq_some_iff.1 HD.out).1).trans HD.out)
  have HWS := Lib.hid (Kd.C_below HWS.out hb)
  have HA := Lib.hid ((hb.block _ (Array.getElem?_eq_some_iff.1 HA.out).1).trans HA.out)
  have HA2 := Lib.hid ((hb.block _ (Array.getElem?_eq_some_iff.1 HA2.out).1).trans HA2.out)
  have HC1 := Lib.hid (Kd.C_below HC1.out hb)
  have HC2 := Lib.hid (Kd.C_below HC2.out hb)
  have HL1 := Lib.hid (Kd.C_below HL1.out hb)
  obtain ⟨Am, cm, hvm, _, hCm⟩ := Kd.R_reads hr
  subst hvm
  have HL2 := Lib.hid hCm
  clear hr hCm
  clear hb HDG HRD hdl
  have hdl := HL1.out.2.1
  go_wp2
  go_loopw [22, 77] (fun _ v wr => ∃ k : Nat, k ≤ DF.length ∧ v = .int .i64 k ∧ Hid (Below w12.heap.size w12 wr)) (fun _ v _ => DF.length - (intOf v).toNat)
  case atStart => exact ⟨0, by omega, rfl, Lib.hid (Below.refl _ _)⟩
  case round =>
    obtain ⟨k, hk, rfl, HV⟩ := hrel
    by_cases hlt : k < DF.length
    · obtain ⟨al, rfl, e1⟩ := str_at (Kd.C_below HL1.out HV.out) hlt
      obtain ⟨am, rfl, e2⟩ := str_at (Kd.C_below HL2.out HV.out) hlt
      have hltI : (k : Int) < DF.length := by omega
      generalize DF[k] = z at *
      have hzz : (z.toList == z.toList) = true := by simp
      go_wp2
      go_quiet (fail)
      have HV1 := Lib.hid (pw_below_drewN HV.out nq)
      generalize wr.drewN nq = w13 at *
      go_wp2
      go_roundw
      case rel => exact ⟨k + 1, by omega, by go_num, HV1⟩
      case measure => simp [intOf]; omega
    · as_aux_lemma =>
      have hb := HV.out
      have HB := Lib.hid (below_next HB.out hb)
      have HT := Lib.hid (Kd.C_below HT.out hb)
      have HU := Lib.hid (Kd.C_below HU.out hb)
      have HN := Lib.hid ((hb.block _ (Array.getElem?_eq_some_iff.1 HN.out).1).trans HN.out)
      have HD := Lib.hid ((hb.block _ (Array.getElem?_eq_some_iff.1 HD.out).1).trans HD.out)
      have HWS := Lib.hid (Kd.C_below HWS.out hb)
      have HA := Lib.hid ((hb.block _ (Array.getElem?_eq_some_iff.1 HA.out).1).trans HA.out)
      have HA2 := Lib.hid ((hb.block _ (Array.getElem?_eq_some_iff.1 HA2.out).1).trans HA2.out)
      have HC1 := Lib.hid (Kd.C_below HC1.out hb)
      have HC2 := Lib.hid (Kd.C_below HC2.out hb)
      have HL1 := Lib.hid (Kd.C_below HL1.out hb)
      clear hb HV HL1 HL2
      have HSH : Hid (Short t) := Lib.hid (fun x hx => by have := HZ1.out x hx; omega)
      go_wp2
      have hb := below_drew (Below.refl wr.heap.size wr)
      have HB := Lib.hid (below_next HB.out hb)
      have HT := Lib.hid (Kd.C_below HT.out hb)
      have HU := Lib.hid (Kd.C_below HU.out hb)
      have HN := Lib.hid ((hb.block _ (Array.getElem?_eq_some_iff.1 HN.out).1).trans HN.out)
      have HD := Lib.hid ((hb.block _ (Array.getElem?_eq_some_iff.1 HD.out).1).trans HD.out)
      have HWS := Lib.hid (Kd.C_below HWS.out hb)
      have HA := Lib.hid ((hb.block _ (Array.getElem?_eq_some_iff.1 HA.out).1).trans HA.out)
      have HA2 := Lib.hid ((hb.block _ (Array.getElem?_eq_some_iff.1 HA2.out).1).trans HA2.out)
      have HC1 := Lib.hid (Kd.C_below HC1.out hb)
      have HC2 := Lib.hid (Kd.C_below HC2.out hb)
      clear hb
      have sba0 : wr.drew.cell? ⟨ba, 0, none⟩ = some (.int .i64 f0) := by rw [cell_of HA.out]; rfl
      have sba1 : wr.drew.cell? ⟨ba, 1, none⟩ = some (.int .u32 f1) := by rw [cell_of HA.out]; rfl
      have sba2 : wr.drew.cell? ⟨ba, 2, none⟩ = some (.int .u32 f2) := by rw [cell_of HA.out]; rfl
      have sba3 : wr.drew.cell? ⟨ba, 3, none⟩ = some (.int .u32 f3) := by rw [cell_of HA.out]; rfl
      have sba4 : wr.drew.cell? ⟨ba, 4, none⟩ = some (.int .i64 f4) := by rw [cell_of HA.out]; rfl
      have sba5 : wr.drew.cell? ⟨ba, 5, none⟩ = some (.int .i64 f5) := by rw [cell_of HA.out]; rfl
      have sba6 : wr.drew.cell? ⟨ba, 6, none⟩ = some (.string f6) := by rw [cell_of HA.out]; rfl
      have sbb0 : wr.drew.cell? ⟨bb, 0, none⟩ = some (.int .i64 f0) := by rw [cell_of HA2.out]; rfl
      have sbb1 : wr.drew.cell? ⟨bb, 1, none⟩ = some (.int .u32 f1) := by rw [cell_of HA2.out]; rfl
      have sbb2 : wr.drew.cell? ⟨bb, 2, none⟩ = some (.int .u32 f2) := by rw [cell_of HA2.out]; rfl
      have sbb3 : wr.drew.cell? ⟨bb, 3, none⟩ = some (.int .u32 f3) := by rw [cell_of HA2.out]; rfl
      have sbb4 : wr.drew.cell? ⟨bb, 4, none⟩ = some (.int .i64 f4) := by rw [cell_of HA2.out]; rfl
      have sbb5 : wr.drew.cell? ⟨bb, 5, none⟩ = some (.int .i64 f5) := by rw [cell_of HA2.out]; rfl
      have sbb6 : wr.drew.cell? ⟨bb, 6, none⟩ = some (.string f6) := by rw [cell_of HA2.out]; rfl
      have sbn0 : wr.drew.cell? ⟨bn, 0, none⟩ = some (.int .i64 n0) := by rw [cell_of HN.out]; rfl
      have sbn1 : wr.drew.cell? ⟨bn, 1, none⟩ = some (.int .u32 n1) := by rw [cell_of HN.out]; rfl
      have sbn2 : wr.drew.cell? ⟨bn, 2, none⟩ = some (.int .u32 n2) := by rw [cell_of HN.out]; rfl
      have sbn3 : wr.drew.cell? ⟨bn, 3, none⟩ = some (.int .u32 n3) := by rw [cell_of HN.out]; rfl
      have sbn4 : wr.drew.cell? ⟨bn, 4, none⟩ = some (.int .i64 n4) := by rw [cell_of HN.out]; rfl
      have sbn5 : wr.drew.cell? ⟨bn, 5, none⟩ = some (.int .i64 n5) := by rw [cell_of HN.out]; rfl
      have sbn6 : wr.drew.cell? ⟨bn, 6, none⟩ = some (.string n6) := by rw [cell_of HN.out]; rfl
      refine start_ (n := 74) (S := fun w' => w'.cell? ⟨ba, 0, none⟩ = some (.int .i64 f0) ∧ w'.cell? ⟨ba, 1, none⟩ = some (.int .u32 f1) ∧ w'.cell? ⟨ba, 2, none⟩ = some (.int .u32 f2) ∧ w'.cell? ⟨ba, 3, none⟩ = some (.int .u32 f3) ∧ w'.cell? ⟨ba, 4, none⟩ = some (.int .i64 f4) ∧ w'.cell? ⟨ba, 5, none⟩ = some (.int .i64 f5) ∧ w'.cell? ⟨ba, 6, none⟩ = some (.string f6) ∧ w'.cell? ⟨bb, 0, none⟩ = some (.int .i64 f0) ∧ w'.cell? ⟨bb, 1, none⟩ = some (.int .u32 f1) ∧ w'.cell? ⟨bb, 2, none⟩ = some (.int .u32 f2) ∧ w'.cell? ⟨bb, 3, none⟩ = some (.int .u32 f3) ∧ w'.cell? ⟨bb, 4, none⟩ = some (.int .i64 f4) ∧ w'.cell? ⟨bb, 5, none⟩ = some (.int .i64 f5) ∧ w'.cell? ⟨bb, 6, none⟩ = some (.string f6) ∧ w'.cell? ⟨bn, 0, none⟩ = some (.int .i64 n0) ∧ w'.cell? ⟨bn, 1, none⟩ = some (.int .u32 n1) ∧ w'.cell? ⟨bn, 2, none⟩ = some (.int .u32 n2) ∧ w'.cell? ⟨bn, 3, none⟩ = some (.int .u32 n3) ∧ w'.cell? ⟨bn, 4, none⟩ = some (.int .i64 n4) ∧ w'.cell? ⟨bn, 5, none⟩ = some (.int .i64 n5) ∧ w'.cell? ⟨bn, 6, none⟩ = some (.string n6)) (ds := [71]) #[false, false, false, false, false, false, false, false, false, false, false, false, false, false, false, false, false, false, false, false, false, false, false, false, false, false, false, false, false, false, false, false, false, false, false, false, false, false, false, false, false, false, false, false, false, false, false, false, false, false, false, false, false, false, false, false, false, false, false, false, false, false, false, false, false, false, false, false, false, false, false, false, false, false] (by kernel_rfl) rfl rfl ⟨sba0, sba1, sba2, sba3, sba4, sba5, sba6, sbb0, sbb1, sbb2, sbb3, sbb4, sbb5, sbb6, sbn0, sbn1, sbn2, sbn3, sbn4, sbn5, sbn6⟩ (fun hHeld => ?_); refine with_tabW tab19 bits19 (fun HT_ HW_ => ?_)
      clear sba0 sba1 sba2 sba3 sba4 sba5 sba6 sbb0 sbb1 sbb2 sbb3 sbb4 sbb5 sbb6 sbn0 sbn1 sbn2 sbn3 sbn4 sbn5 sbn6
      have HB14 := Lib.hid HB.out
      generalize wr.drew = w14 at *
      have HV0 := Lib.hid (Below.refl w14.heap.size w14)
      have HBW := Lib.hid HB.out
      have K1 : Hid (∀ w', Below w14.heap.size w14 w' → Calls Tryz.prog 22 #[.slice A t.length c] w' fun e w2 => e = .returned (.bool (right16 t)) ∧ Below w'.heap.size w' w2) := Lib.hid (fun w' h => tright_any t A c w' ((HG.out.below HBW.out).below h) (Kd.C_below HT.out h) (by omega) HZ1.out)
      have K2 : Hid (∀ w', Below w14.heap.size w14 w' → Calls Tryz.prog 14 #[.slice A t.length c] w' fun e w2 => e = .returned (.bool (right16 t)) ∧ Below w'.heap.size w' w2) := Lib.hid (fun w' h => rright16_any t A c w' (Kd.C_below HT.out h) (by omega) HZ1.out)
      have K3 : Hid (∀ w', Below w14.heap.size w14 w' → Calls Tryz.prog 23 #[.slice A t.length c, .string s, .agg #[.int .i64 n0, .int .u32 n1, .int .u32 n2, .int .u32 n3, .int .i64 n4, .int .i64 n5, .string n6]] w' fun e w2 => ∃ v, e = .returned v ∧ itemK.R 33 w2 w'.heap.size (fun _ => True) v (putP t (s, n0, n1, n2, n3, n4, n5, n6)) ∧ Below w'.heap.size w' w2) := Lib.hid (fun w' h => put_any t A c s n0 n1 n2 n3 n4 n5 n6 w' ((HG.out.below HBW.out).below h) (Kd.C_below HT.out h) (by omega) HSH.out (by omega))
      have K4 : Hid (∀ w', Below w14.heap.size w14 w' → Calls Tryz.prog 24 #[.slice A t.length c, .string s, .agg #[.int .i64 n0, .int .u32 n1, .int .u32 n2, .int .u32 n3, .int .i64 n4, .int .i64 n5, .string n6]] w' fun e w2 => ∃ v, e = .returned v ∧ itemK.R 33 w2 w'.heap.size (fun _ => True) v (putP t (s, n0, n1, n2, n3, n4, n5, n6)) ∧ Below w'.heap.size w' w2) := Lib.hid (fun w' h => rput16_any t A c s n0 n1 n2 n3 n4 n5 n6 w' (Kd.C_below HT.out h) (by omega) HZ1.out (by omega))
      have K5 : Hid (∀ w', Below w14.heap.size w14 w' → Calls Tryz.prog 25 #[.slice A t.length c, .string s] w' fun e w2 => ∃ v, e = .returned v ∧ itemK.R 33 w2 w'.heap.size (fun _ => True) v (dropP t s) ∧ Below w'.heap.size w' w2) := Lib.hid (fun w' h => drop_any t A c s w' (Kd.C_below HT.out h) (by omega))
      have K6 : Hid (∀ w', Below w14.heap.size w14 w' → Calls Tryz.prog 26 #[.slice A t.length c, .string s] w' fun e w2 => ∃ v, e = .returned v ∧ itemK.R 33 w2 w'.heap.size (fun _ => True) v (dropP t s) ∧ Below w'.heap.size w' w2) := Lib.hid (fun w' h => rdrop_any t A c s w' (Kd.C_below HT.out h) (by omega) HZ1.out (by omega))
      have K7 : Hid (∀ w', Below w14.heap.size w14 w' → Calls Tryz.prog 27 #[.slice A t.length c] w' fun e w2 => ∃ v, e = .returned v ∧ itemK.R 33 w2 w'.heap.size (fun _ => True) v (sortP t) ∧ Below w'.heap.size w' w2) := Lib.hid (fun w' h => sort_any t A c w' ((HG.out.below HBW.out).below h) (Kd.C_below HT.out h) (by omega) HSH.out)
      have K8 : Hid (∀ w', Below w14.heap.size w14 w' → Calls Tryz.prog 28 #[.slice A t.length c] w' fun e w2 => ∃ v, e = .returned v ∧ itemK.R 33 w2 w'.heap.size (fun _ => True) v (sortP t) ∧ Below w'.heap.size w' w2) := Lib.hid (fun w' h => rsort_any t A c w' (Kd.C_below HT.out h) (by omega) HZ1.out)
      have K9 : Hid (∀ w', Below w14.heap.size w14 w' → Calls Tryz.prog 29 #[.slice A t.length c] w' fun e w2 => e = .returned (.int .u64 (sumB t)) ∧ Below w'.heap.size w' w2) := Lib.hid (fun w' h => bytes_any t A c w' (Kd.C_below HT.out h) (by omega) HY1.out)
      have K10 : Hid (∀ w', Below w14.heap.size w14 w' → Calls Tryz.prog 30 #[.slice A t.length c] w' fun e w2 => e = .returned (.int .u64 (sumB t)) ∧ Below w'.heap.size w' w2) := Lib.hid (fun w' h => rbytes_any t A c w' (Kd.C_below HT.out h) (by omega) HY1.out)
      have K11 : Hid (∀ w', Below w14.heap.size w14 w' → Calls Tryz.prog 31 #[.slice A t.length c, .slice Bd u.length d] w' fun e w2 => e = .returned (.bool (decide (t = u))) ∧ Below w'.heap.size w' w2) := Lib.hid (fun w' h => tsame_any t u A c Bd d w' (Kd.C_below HT.out h) (Kd.C_below HU.out h))
      have K12 : Hid (∀ w', Below w14.heap.size w14 w' → Calls Tryz.prog 11 #[.slice A t.length c, .slice Bd u.length d] w' fun e w2 => e = .returned (.bool (decide (t = u))) ∧ Below w'.heap.size w' w2) := Lib.hid (fun w' h => same_any t u A c Bd d w' (Kd.C_below HT.out h) (Kd.C_below HU.out h))
      generalize right16 t = rt at *
      generalize putP t (s, n0, n1, n2, n3, n4, n5, n6) = P1 at *
      generalize dropP t s = P2 at *
      generalize sortP t = P3 at *
      generalize sumB t = sb at *
      generalize decide (t = u) = tu at *
      have he := fun (dd : Nat) (V : World) => eqNode dd V f0 f0 f1 f1 f2 f2 f3 f3 f4 f4 f5 f5 f6 f6
      simp only [beq_self_eq_true, Bool.and_self] at he
      refine take_ (i := 0) (N := some 90) (v := ?_) (a' := ?_) #[true, false, false, false, false, false, false, false, false, false, false, false, false, false, false, false, false, false, false, false, false, false, false, false, false, false, false, false, false, false, false, false, false, false, false, false, false, false, false, false, false, false, false, false, false, false, false, false, false, false, false, false, false, false, false, false, false, false, false, false, false, false, false, false, false, false, false, false, false, false, false, false, false, false] rfl rfl (take_ofW HT_.out HW_.out (by kernel_rfl)) (fun _ _ _ h => h) (Or.inl ⟨by rfl, ?_⟩) hHeld ?_ ?_
      rotate_left
      · rintro w' ⟨s0, s1, s2, s3, s4, s5, s6, s7, s8, s9, s10, s11, s12, s13, s14, s15, s16, s17, s18, s19, s20⟩
        go_simp
        with_reducible rfl
      rotate_left
      · simp only [Act.put, List.setIfInBounds_toArray, List.set_cons_zero, List.set_cons_succ, i64_w, i32_w]
        rfl
      refine take_ (i := 1) (N := some 91) (v := ?_) (a' := ?_) #[true, true, false, false, false, false, false, false, false, false, false, false, false, false, false, false, false, false, false, false, false, false, false, false, false, false, false, false, false, false, false, false, false, false, false, false, false, false, false, false, false, false, false, false, false, false, false, false, false, false, false, false, false, false, false, false, false, false, false, false, false, false, false, false, false, false, false, false, false, false, false, false, false, false] rfl rfl (take_ofW HT_.out HW_.out (by kernel_rfl)) (fun _ _ _ h => h) (Or.inl ⟨by rfl, ?_⟩) hHeld ?_ ?_
      rotate_left
      · rintro w' ⟨s0, s1, s2, s3, s4, s5, s6, s7, s8, s9, s10, s11, s12, s13, s14, s15, s16, s17, s18, s19, s20⟩
        go_simp
        with_reducible rfl
      rotate_left
      · simp only [Act.put, List.setIfInBounds_toArray, List.set_cons_zero, List.set_cons_succ, i64_w, i32_w]
        rfl
      refine pure_ (i := 2) (N := some 92) (v := ?_) (a' := ?_) #[true, true, true, false, false, false, false, false, false, false, false, false, false, false, false, false, false, false, false, false, false, false, false, false, false, false, false, false, false, false, false, false, false, false, false, false, false, false, false, false, false, false, false, false, false, false, false, false, false, false, false, false, false, false, false, false, false, false, false, false, false, false, false, false, false, false, false, false, false, false, false, false, false, false] rfl rfl (any_of HT_.out (by kernel_rfl)) (fun _ _ _ h => h) (Or.inl ⟨by rfl, ?_⟩) ?_ ?_
      rotate_left
      · intro w'
        go_simp
        with_reducible rfl
      rotate_left
      · simp only [Act.put, List.setIfInBounds_toArray, List.set_cons_zero, List.set_cons_succ, i64_w, i32_w]
        rfl
      refine pure_ (i := 3) (N := some 93) (v := ?_) (a' := ?_) #[true, true, true, true, false, false, false, false, false, false, false, false, false, false, false, false, false, false, false, false, false, false, false, false, false, false, false, false, false, false, false, false, false, false, false, false, false, false, false, false, false, false, false, false, false, false, false, false, false, false, false, false, false, false, false, false, false, false, false, false, false, false, false, false, false, false, false, false, false, false, false, false, false, false] rfl rfl (any_of HT_.out (by kernel_rfl)) (fun _ _ _ h => h) (Or.inl ⟨by rfl, ?_⟩) ?_ ?_
      rotate_left
      · intro w'
        go_simp
        with_reducible rfl
      rotate_left
      · simp only [Act.put, List.setIfInBounds_toArray, List.set_cons_zero, List.set_cons_succ, i64_w, i32_w]
        rfl
      refine pure_ (i := 4) (N := some 94) (v := ?_) (a' := ?_) #[true, true, true, true, true, false, false, false, false, false, false, false, false, false, false, false, false, false, false, false, false, false, false, false, false, false, false, false, false, false, false, false, false, false, false, false, false, false, false, false, false, false, false, false, false, false, false, false, false, false, false, false, false, false, false, false, false, false, false, false, false, false, false, false, false, false, false, false, false, false, false, false, false, false] rfl rfl (any_of HT_.out (by kernel_rfl)) (fun _ _ _ h => h) (Or.inl ⟨by rfl, ?_⟩) ?_ ?_
      rotate_left
      · intro w'
        go_simp
        with_reducible rfl
      rotate_left
      · simp only [Act.put, List.setIfInBounds_toArray, List.set_cons_zero, List.set_cons_succ, i64_w, i32_w]
        rfl
      refine pure_ (i := 5) (N := some 95) (v := ?_) (a' := ?_) #[true, true, true, true, true, true, false, false, false, false, false, false, false, false, false, false, false, false, false, false, false, false, false, false, false, false, false, false, false, false, false, false, false, false, false, false, false, false, false, false, false, false, false, false, false, false, false, false, false, false, false, false, false, false, false, false, false, false, false, false, false, false, false, false, false, false, false, false, false, false, false, false, false, false] rfl rfl (any_of HT_.out (by kernel_rfl)) (fun _ _ _ h => h) (Or.inl ⟨by rfl, ?_⟩) ?_ ?_
      rotate_left
      · intro w'
        go_simp
        with_reducible rfl
      rotate_left
      · simp only [Act.put, List.setIfInBounds_toArray, List.set_cons_zero, List.set_cons_succ, i64_w, i32_w]
        rfl
      refine pure_ (i := 6) (N := some 96) (v := ?_) (a' := ?_) #[true, true, true, true, true, true, true, false, false, false, false, false, false, false, false, false, false, false, false, false, false, false, false, false, false, false, false, false, false, false, false, false, false, false, false, false, false, false, false, false, false, false, false, false, false, false, false, false, false, false, false, false, false, false, false, false, false, false, false, false, false, false, false, false, false, false, false, false, false, false, false, false, false, false] rfl rfl (any_of HT_.out (by kernel_rfl)) (fun _ _ _ h => h) (Or.inl ⟨by rfl, ?_⟩) ?_ ?_
      rotate_left
      · intro w'
        go_simp
        with_reducible rfl
      rotate_left
      · simp only [Act.put, List.setIfInBounds_toArray, List.set_cons_zero, List.set_cons_succ, i64_w, i32_w]
        rfl
      refine pure_ (i := 7) (N := some 97) (v := ?_) (a' := ?_) #[true, true, true, true, true, true, true, true, false, false, false, false, false, false, false, false, false, false, false, false, false, false, false, false, false, false, false, false, false, false, false, false, false, false, false, false, false, false, false, false, false, false, false, false, false, false, false, false, false, false, false, false, false, false, false, false, false, false, false, false, false, false, false, false, false, false, false, false, false, false, false, false, false, false] rfl rfl (any_of HT_.out (by kernel_rfl)) (fun _ _ _ h => h) (Or.inl ⟨by rfl, ?_⟩) ?_ ?_
      rotate_left
      · intro w'
        go_simp
        with_reducible rfl
      rotate_left
      · simp only [Act.put, List.setIfInBounds_toArray, List.set_cons_zero, List.set_cons_succ, i64_w, i32_w]
        rfl
      refine pure_ (i := 8) (N := some 98) (v := ?_) (a' := ?_) #[true, true, true, true, true, true, true, true, true, false, false, false, false, false, false, false, false, false, false, false, false, false, false, false, false, false, false, false, false, false, false, false, false, false, false, false, false, false, false, false, false, false, false, false, false, false, false, false, false, false, false, false, false, false, false, false, false, false, false, false, false, false, false, false, false, false, false, false, false, false, false, false, false, false] rfl rfl (any_of HT_.out (by kernel_rfl)) (fun _ _ _ h => h) (Or.inl ⟨by rfl, ?_⟩) ?_ ?_
      rotate_left
      · intro w'
        go_simp
        with_reducible rfl
      rotate_left
      · simp only [Act.put, List.setIfInBounds_toArray, List.set_cons_zero, List.set_cons_succ, i64_w, i32_w]
        rfl
      refine pure_ (i := 9) (N := some 99) (v := ?_) (a' := ?_) #[true, true, true, true, true, true, true, true, true, true, false, false, false, false, false, false, false, false, false, false, false, false, false, false, false, false, false, false, false, false, false, false, false, false, false, false, false, false, false, false, false, false, false, false, false, false, false, false, false, false, false, false, false, false, false, false, false, false, false, false, false, false, false, false, false, false, false, false, false, false, false, false, false, false] rfl rfl (any_of HT_.out (by kernel_rfl)) (fun _ _ _ h => h) (Or.inl ⟨by rfl, ?_⟩) ?_ ?_
      rotate_left
      · intro w'
        go_simp
        with_reducible rfl
      rotate_left
      · simp only [Act.put, List.setIfInBounds_toArray, List.set_cons_zero, List.set_cons_succ, i64_w, i32_w]
        rfl
      refine pure_ (i := 10) (N := some 100) (v := ?_) (a' := ?_) #[true, true, true, true, true, true, true, true, true, true, true, false, false, false, false, false, false, false, false, false, false, false, false, false, false, false, false, false, false, false, false, false, false, false, false, false, false, false, false, false, false, false, false, false, false, false, false, false, false, false, false, false, false, false, false, false, false, false, false, false, false, false, false, false, false, false, false, false, false, false, false, false, false, false] rfl rfl (any_of HT_.out (by kernel_rfl)) (fun _ _ _ h => h) (Or.inl ⟨by rfl, ?_⟩) ?_ ?_
      rotate_left
      · intro w'
        go_simp
        with_reducible rfl
      rotate_left
      · simp only [Act.put, List.setIfInBounds_toArray, List.set_cons_zero, List.set_cons_succ, i64_w, i32_w]
        rfl
      refine one_ (i := 11) (N := some 101) #[true, true, true, true, true, true, true, true, true, true, true, true, false, false, false, false, false, false, false, false, false, false, false, false, false, false, false, false, false, false, false, false, false, false, false, false, false, false, false, false, false, false, false, false, false, false, false, false, false, false, false, false, false, false, false, false, false, false, false, false, false, false, false, false, false, false, false, false, false, false, false, false, false, false] rfl rfl (one_of HT_.out (by kernel_rfl)) (by decide) (fun K hK => ?_)
      refine goes_ Tryz.func11 (by kernel_rfl) rfl #[.slice Ac FL.length cc, .slice Ad FL.length cd] (by rfl) rfl rfl (by simp only [List.map_toArray, List.map_cons, List.map_nil]; rfl) ?_
      with_reducible refine (same_refl FL Ac cc Ad cd w14 (Kd.C_below HC1.out HV0.out) (Kd.C_below HC2.out HV0.out)).mono ?_
      rintro e w15 ⟨rfl, hb⟩
      refine ⟨_, rfl, ?_⟩
      have HV15 := Lib.hid (below_next HV0.out hb)
      clear hb
      refine hK.out _ _ ⟨(by rw [cell_of ((HV15.out.block _ (Array.getElem?_eq_some_iff.1 HA.out).1).trans HA.out)]; rfl), (by rw [cell_of ((HV15.out.block _ (Array.getElem?_eq_some_iff.1 HA.out).1).trans HA.out)]; rfl), (by rw [cell_of ((HV15.out.block _ (Array.getElem?_eq_some_iff.1 HA.out).1).trans HA.out)]; rfl), (by rw [cell_of ((HV15.out.block _ (Array.getElem?_eq_some_iff.1 HA.out).1).trans HA.out)]; rfl), (by rw [cell_of ((HV15.out.block _ (Array.getElem?_eq_some_iff.1 HA.out).1).trans HA.out)]; rfl), (by rw [cell_of ((HV15.out.block _ (Array.getElem?_eq_some_iff.1 HA.out).1).trans HA.out)]; rfl), (by rw [cell_of ((HV15.out.block _ (Array.getElem?_eq_some_iff.1 HA.out).1).trans HA.out)]; rfl), (by rw [cell_of ((HV15.out.block _ (Array.getElem?_eq_some_iff.1 HA2.out).1).trans HA2.out)]; rfl), (by rw [cell_of ((HV15.out.block _ (Array.getElem?_eq_some_iff.1 HA2.out).1).trans HA2.out)]; rfl), (by rw [cell_of ((HV15.out.block _ (Array.getElem?_eq_some_iff.1 HA2.out).1).trans HA2.out)]; rfl), (by rw [cell_of ((HV15.out.block _ (Array.getElem?_eq_some_iff.1 HA2.out).1).trans HA2.out)]; rfl), (by rw [cell_of ((HV15.out.block _ (Array.getElem?_eq_some_iff.1 HA2.out).1).trans HA2.out)]; rfl), (by rw [cell_of ((HV15.out.block _ (Array.getElem?_eq_some_iff.1 HA2.out).1).trans HA2.out)]; rfl), (by rw [cell_of ((HV15.out.block _ (Array.getElem?_eq_some_iff.1 HA2.out).1).trans HA2.out)]; rfl), (by rw [cell_of ((HV15.out.block _ (Array.getElem?_eq_some_iff.1 HN.out).1).trans HN.out)]; rfl), (by rw [cell_of ((HV15.out.block _ (Array.getElem?_eq_some_iff.1 HN.out).1).trans HN.out)]; rfl), (by rw [cell_of ((HV15.out.block _ (Array.getElem?_eq_some_iff.1 HN.out).1).trans HN.out)]; rfl), (by rw [cell_of ((HV15.out.block _ (Array.getElem?_eq_some_iff.1 HN.out).1).trans HN.out)]; rfl), (by rw [cell_of ((HV15.out.block _ (Array.getElem?_eq_some_iff.1 HN.out).1).trans HN.out)]; rfl), (by rw [cell_of ((HV15.out.block _ (Array.getElem?_eq_some_iff.1 HN.out).1).trans HN.out)]; rfl), (by rw [cell_of ((HV15.out.block _ (Array.getElem?_eq_some_iff.1 HN.out).1).trans HN.out)]; rfl)⟩ (fun hHeld => ?_)
      clear hK K
      refine norm_ (a' := ?_) ?_ ?_
      rotate_left
      · show Act.put _ (some 101) _ = _
        simp only [Act.put, List.setIfInBounds_toArray, List.set_cons_zero, List.set_cons_succ, i64_w, i32_w]
        rfl
      refine pure_ (i := 12) (N := some 102) (v := ?_) (a' := ?_) #[true, true, true, true, true, true, true, true, true, true, true, true, true, false, false, false, false, false, false, false, false, false, false, false, false, false, false, false, false, false, false, false, false, false, false, false, false, false, false, false, false, false, false, false, false, false, false, false, false, false, false, false, false, false, false, false, false, false, false, false, false, false, false, false, false, false, false, false, false, false, false, false, false, false] rfl rfl (any_of HT_.out (by kernel_rfl)) (fun _ _ _ h => h) (Or.inl ⟨by rfl, ?_⟩) ?_ ?_
      rotate_left
      · intro w'
        go_simp
        with_reducible rfl
      rotate_left
      · simp only [Act.put, List.setIfInBounds_toArray, List.set_cons_zero, List.set_cons_succ, i64_w, i32_w]
        rfl
      refine pure_ (i := 13) (N := some 103) (v := ?_) (a' := ?_) #[true, true, true, true, true, true, true, true, true, true, true, true, true, true, false, false, false, false, false, false, false, false, false, false, false, false, false, false, false, false, false, false, false, false, false, false, false, false, false, false, false, false, false, false, false, false, false, false, false, false, false, false, false, false, false, false, false, false, false, false, false, false, false, false, false, false, false, false, false, false, false, false, false, false] rfl rfl (any_of HT_.out (by kernel_rfl)) (fun _ _ _ h => h) (Or.inl ⟨by rfl, ?_⟩) ?_ ?_
      rotate_left
      · intro w'
        go_simp
        with_reducible rfl
      rotate_left
      · simp only [Act.put, List.setIfInBounds_toArray, List.set_cons_zero, List.set_cons_succ, i64_w, i32_w]
        rfl
      refine pure_ (i := 14) (N := some 104) (v := ?_) (a' := ?_) #[true, true, true, true, true, true, true, true, true, true, true, true, true, true, true, false, false, false, false, false, false, false, false, false, false, false, false, false, false, false, false, false, false, false, false, false, false, false, false, false, false, false, false, false, false, false, false, false, false, false, false, false, false, false, false, false, false, false, false, false, false, false, false, false, false, false, false, false, false, false, false, false, false, false] rfl rfl (any_of HT_.out (by kernel_rfl)) (fun _ _ _ h => h) (Or.inl ⟨by rfl, ?_⟩) ?_ ?_
      rotate_left
      · intro w'
        go_simp
        with_reducible rfl
      rotate_left
      · simp only [Act.put, List.setIfInBounds_toArray, List.set_cons_zero, List.set_cons_succ, i64_w, i32_w]
        rfl
      refine pure_ (i := 15) (N := some 105) (v := ?_) (a' := ?_) #[true, true, true, true, true, true, true, true, true, true, true, true, true, true, true, true, false, false, false, false, false, false, false, false, false, false, false, false, false, false, false, false, false, false, false, false, false, false, false, false, false, false, false, false, false, false, false, false, false, false, false, false, false, false, false, false, false, false, false, false, false, false, false, false, false, false, false, false, false, false, false, false, false, false] rfl rfl (any_of HT_.out (by kernel_rfl)) (fun _ _ _ h => h) (Or.inl ⟨by rfl, ?_⟩) ?_ ?_
      rotate_left
      · intro w'
        go_simp
        with_reducible rfl
      rotate_left
      · simp only [Act.put, List.setIfInBounds_toArray, List.set_cons_zero, List.set_cons_succ, i64_w, i32_w]
        rfl
      refine pure_ (i := 16) (N := some 106) (v := ?_) (a' := ?_) #[true, true, true, true, true, true, true, true, true, true, true, true, true, true, true, true, true, false, false, false, false, false, false, false, false, false, false, false, false, false, false, false, false, false, false, false, false, false, false, false, false, false, false, false, false, false, false, false, false, false, false, false, false, false, false, false, false, false, false, false, false, false, false, false, false, false, false, false, false, false, false, false, false, false] rfl rfl (any_of HT_.out (by kernel_rfl)) (fun _ _ _ h => h) (Or.inl ⟨by rfl, ?_⟩) ?_ ?_
      rotate_left
      · intro w'
        go_simp
        with_reducible rfl
      rotate_left
      · simp only [Act.put, List.setIfInBounds_toArray, List.set_cons_zero, List.set_cons_succ, i64_w, i32_w]
        rfl
      refine pure_ (i := 17) (N := some 107) (v := ?_) (a' := ?_) #[true, true, true, true, true, true, true, true, true, true, true, true, true, true, true, true, true, true, false, false, false, false, false, false, false, false, false, false, false, false, false, false, false, false, false, false, false, false, false, false, false, false, false, false, false, false, false, false, false, false, false, false, false, false, false, false, false, false, false, false, false, false, false, false, false, false, false, false, false, false, false, false, false, false] rfl rfl (any_of HT_.out (by kernel_rfl)) (fun _ _ _ h => h) (Or.inl ⟨by rfl, ?_⟩) ?_ ?_
      rotate_left
      · intro w'
        go_simp
        with_reducible rfl
      rotate_left
      · simp only [Act.put, List.setIfInBounds_toArray, List.set_cons_zero, List.set_cons_succ, i64_w, i32_w]
        rfl
      refine pure_ (i := 18) (N := some 108) (v := ?_) (a' := ?_) #[true, true, true, true, true, true, true, true, true, true, true, true, true, true, true, true, true, true, true, false, false, false, false, false, false, false, false, false, false, false, false, false, false, false, false, false, false, false, false, false, false, false, false, false, false, false, false, false, false, false, false, false, false, false, false, false, false, false, false, false, false, false, false, false, false, false, false, false, false, false, false, false, false, false] rfl rfl (any_of HT_.out (by kernel_rfl)) (fun _ _ _ h => h) (Or.inl ⟨by rfl, ?_⟩) ?_ ?_
      rotate_left
      · intro w'
        go_simp
        with_reducible rfl
      rotate_left
      · simp only [Act.put, List.setIfInBounds_toArray, List.set_cons_zero, List.set_cons_succ, i64_w, i32_w]
        rfl
      refine pure_ (i := 19) (N := some 109) (v := ?_) (a' := ?_) #[true, true, true, true, true, true, true, true, true, true, true, true, true, true, true, true, true, true, true, true, false, false, false, false, false, false, false, false, false, false, false, false, false, false, false, false, false, false, false, false, false, false, false, false, false, false, false, false, false, false, false, false, false, false, false, false, false, false, false, false, false, false, false, false, false, false, false, false, false, false, false, false, false, false] rfl rfl (any_of HT_.out (by kernel_rfl)) (fun _ _ _ h => h) (Or.inl ⟨by rfl, ?_⟩) ?_ ?_
      rotate_left
      · intro w'
        go_simp
        with_reducible rfl
      rotate_left
      · simp only [Act.put, List.setIfInBounds_toArray, List.set_cons_zero, List.set_cons_succ, i64_w, i32_w]
        rfl
      refine pure_ (i := 21) (N := some 111) (v := ?_) (a' := ?_) #[true, true, true, true, true, true, true, true, true, true, true, true, true, true, true, true, true, true, true, true, false, true, false, false, false, false, false, false, false, false, false, false, false, false, false, false, false, false, false, false, false, false, false, false, false, false, false, false, false, false, false, false, false, false, false, false, false, false, false, false, false, false, false, false, false, false, false, false, false, false, false, false, false, false] rfl rfl (any_of HT_.out (by kernel_rfl)) (fun _ _ _ h => h) (Or.inl ⟨by rfl, ?_⟩) ?_ ?_
      rotate_left
      · intro w'
        go_simp
        with_reducible rfl
      rotate_left
      · simp only [Act.put, List.setIfInBounds_toArray, List.set_cons_zero, List.set_cons_succ, i64_w, i32_w]
        rfl
      refine one_ (i := 20) (N := some 110) #[true, true, true, true, true, true, true, true, true, true, true, true, true, true, true, true, true, true, true, true, true, true, false, false, false, false, false, false, false, false, false, false, false, false, false, false, false, false, false, false, false, false, false, false, false, false, false, false, false, false, false, false, false, false, false, false, false, false, false, false, false, false, false, false, false, false, false, false, false, false, false, false, false, false] rfl rfl (one_of HT_.out (by kernel_rfl)) (by decide) (fun K hK => ?_)
      refine goes_ Tryz.func22 (by kernel_rfl) rfl #[.slice A t.length c] (by rfl) rfl rfl (by simp only [List.map_toArray, List.map_cons, List.map_nil]; rfl) ?_
      with_reducible refine (K1.out w15 HV15.out).mono ?_
      rintro e w16 ⟨rfl, hb⟩
      refine ⟨_, rfl, ?_⟩
      have HV16 := Lib.hid (below_next HV15.out hb)
      clear hb
      refine hK.out _ _ ⟨(by rw [cell_of ((HV16.out.block _ (Array.getElem?_eq_some_iff.1 HA.out).1).trans HA.out)]; rfl), (by rw [cell_of ((HV16.out.block _ (Array.getElem?_eq_some_iff.1 HA.out).1).trans HA.out)]; rfl), (by rw [cell_of ((HV16.out.block _ (Array.getElem?_eq_some_iff.1 HA.out).1).trans HA.out)]; rfl), (by rw [cell_of ((HV16.out.block _ (Array.getElem?_eq_some_iff.1 HA.out).1).trans HA.out)]; rfl), (by rw [cell_of ((HV16.out.block _ (Array.getElem?_eq_some_iff.1 HA.out).1).trans HA.out)]; rfl), (by rw [cell_of ((HV16.out.block _ (Array.getElem?_eq_some_iff.1 HA.out).1).trans HA.out)]; rfl), (by rw [cell_of ((HV16.out.block _ (Array.getElem?_eq_some_iff.1 HA.out).1).trans HA.out)]; rfl), (by rw [cell_of ((HV16.out.block _ (Array.getElem?_eq_some_iff.1 HA2.out).1).trans HA2.out)]; rfl), (by rw [cell_of ((HV16.out.block _ (Array.getElem?_eq_some_iff.1 HA2.out).1).trans HA2.out)]; rfl), (by rw [cell_of ((HV16.out.block _ (Array.getElem?_eq_some_iff.1 HA2.out).1).trans HA2.out)]; rfl), (by rw [cell_of ((HV16.out.block _ (Array.getElem?_eq_some_iff.1 HA2.out).1).trans HA2.out)]; rfl), (by rw [cell_of ((HV16.out.block _ (Array.getElem?_eq_some_iff.1 HA2.out).1).trans HA2.out)]; rfl), (by rw [cell_of ((HV16.out.block _ (Array.getElem?_eq_some_iff.1 HA2.out).1).trans HA2.out)]; rfl), (by rw [cell_of ((HV16.out.block _ (Array.getElem?_eq_some_iff.1 HA2.out).1).trans HA2.out)]; rfl), (by rw [cell_of ((HV16.out.block _ (Array.getElem?_eq_some_iff.1 HN.out).1).trans HN.out)]; rfl), (by rw [cell_of ((HV16.out.block _ (Array.getElem?_eq_some_iff.1 HN.out).1).trans HN.out)]; rfl), (by rw [cell_of ((HV16.out.block _ (Array.getElem?_eq_some_iff.1 HN.out).1).trans HN.out)]; rfl), (by rw [cell_of ((HV16.out.block _ (Array.getElem?_eq_some_iff.1 HN.out).1).trans HN.out)]; rfl), (by rw [cell_of ((HV16.out.block _ (Array.getElem?_eq_some_iff.1 HN.out).1).trans HN.out)]; rfl), (by rw [cell_of ((HV16.out.block _ (Array.getElem?_eq_some_iff.1 HN.out).1).trans HN.out)]; rfl), (by rw [cell_of ((HV16.out.block _ (Array.getElem?_eq_some_iff.1 HN.out).1).trans HN.out)]; rfl)⟩ (fun hHeld => ?_)
      clear hK K
      refine norm_ (a' := ?_) ?_ ?_
      rotate_left
      · show Act.put _ (some 110) _ = _
        simp only [Act.put, List.setIfInBounds_toArray, List.set_cons_zero, List.set_cons_succ, i64_w, i32_w]
        rfl
      refine one_ (i := 22) (N := some 112) #[true, true, true, true, true, true, true, true, true, true, true, true, true, true, true, true, true, true, true, true, true, true, true, false, false, false, false, false, false, false, false, false, false, false, false, false, false, false, false, false, false, false, false, false, false, false, false, false, false, false, false, false, false, false, false, false, false, false, false, false, false, false, false, false, false, false, false, false, false, false, false, false, false, false] rfl rfl (one_of HT_.out (by kernel_rfl)) (by decide) (fun K hK => ?_)
      refine goes_ Tryz.func14 (by kernel_rfl) rfl #[.slice A t.length c] (by rfl) rfl rfl (by simp only [List.map_toArray, List.map_cons, List.map_nil]; rfl) ?_
      with_reducible refine (K2.out w16 HV16.out).mono ?_
      rintro e w17 ⟨rfl, hb⟩
      refine ⟨_, rfl, ?_⟩
      have HV17 := Lib.hid (below_next HV16.out hb)
      clear hb
      refine hK.out _ _ ⟨(by rw [cell_of ((HV17.out.block _ (Array.getElem?_eq_some_iff.1 HA.out).1).trans HA.out)]; rfl), (by rw [cell_of ((HV17.out.block _ (Array.getElem?_eq_some_iff.1 HA.out).1).trans HA.out)]; rfl), (by rw [cell_of ((HV17.out.block _ (Array.getElem?_eq_some_iff.1 HA.out).1).trans HA.out)]; rfl), (by rw [cell_of ((HV17.out.block _ (Array.getElem?_eq_some_iff.1 HA.out).1).trans HA.out)]; rfl), (by rw [cell_of ((HV17.out.block _ (Array.getElem?_eq_some_iff.1 HA.out).1).trans HA.out)]; rfl), (by rw [cell_of ((HV17.out.block _ (Array.getElem?_eq_some_iff.1 HA.out).1).trans HA.out)]; rfl), (by rw [cell_of ((HV17.out.block _ (Array.getElem?_eq_some_iff.1 HA.out).1).trans HA.out)]; rfl), (by rw [cell_of ((HV17.out.block _ (Array.getElem?_eq_some_iff.1 HA2.out).1).trans HA2.out)]; rfl), (by rw [cell_of ((HV17.out.block _ (Array.getElem?_eq_some_iff.1 HA2.out).1).trans HA2.out)]; rfl), (by rw [cell_of ((HV17.out.block _ (Array.getElem?_eq_some_iff.1 HA2.out).1).trans HA2.out)]; rfl), (by rw [cell_of ((HV17.out.block _ (Array.getElem?_eq_some_iff.1 HA2.out).1).trans HA2.out)]; rfl), (by rw [cell_of ((HV17.out.block _ (Array.getElem?_eq_some_iff.1 HA2.out).1).trans HA2.out)]; rfl), (by rw [cell_of ((HV17.out.block _ (Array.getElem?_eq_some_iff.1 HA2.out).1).trans HA2.out)]; rfl), (by rw [cell_of ((HV17.out.block _ (Array.getElem?_eq_some_iff.1 HA2.out).1).trans HA2.out)]; rfl), (by rw [cell_of ((HV17.out.block _ (Array.getElem?_eq_some_iff.1 HN.out).1).trans HN.out)]; rfl), (by rw [cell_of ((HV17.out.block _ (Array.getElem?_eq_some_iff.1 HN.out).1).trans HN.out)]; rfl), (by rw [cell_of ((HV17.out.block _ (Array.getElem?_eq_some_iff.1 HN.out).1).trans HN.out)]; rfl), (by rw [cell_of ((HV17.out.block _ (Array.getElem?_eq_some_iff.1 HN.out).1).trans HN.out)]; rfl), (by rw [cell_of ((HV17.out.block _ (Array.getElem?_eq_some_iff.1 HN.out).1).trans HN.out)]; rfl), (by rw [cell_of ((HV17.out.block _ (Array.getElem?_eq_some_iff.1 HN.out).1).trans HN.out)]; rfl), (by rw [cell_of ((HV17.out.block _ (Array.getElem?_eq_some_iff.1 HN.out).1).trans HN.out)]; rfl)⟩ (fun hHeld => ?_)
      clear hK K
      refine norm_ (a' := ?_) ?_ ?_
      rotate_left
      · show Act.put _ (some 112) _ = _
        simp only [Act.put, List.setIfInBounds_toArray, List.set_cons_zero, List.set_cons_succ, i64_w, i32_w]
        rfl
      refine pure_ (i := 23) (N := some 113) (v := ?_) (a' := ?_) #[true, true, true, true, true, true, true, true, true, true, true, true, true, true, true, true, true, true, true, true, true, true, true, true, false, false, false, false, false, false, false, false, false, false, false, false, false, false, false, false, false, false, false, false, false, false, false, false, false, false, false, false, false, false, false, false, false, false, false, false, false, false, false, false, false, false, false, false, false, false, false, false, false, false] rfl rfl (any_of HT_.out (by kernel_rfl)) (fun _ _ _ h => h) (Or.inl ⟨by rfl, ?_⟩) ?_ ?_
      rotate_left
      · intro w'
        go_simp
        with_reducible rfl
      rotate_left
      · simp only [Act.put, List.setIfInBounds_toArray, List.set_cons_zero, List.set_cons_succ, i64_w, i32_w]
        rfl
      refine pure_ (i := 24) (N := some 114) (v := ?_) (a' := ?_) #[true, true, true, true, true, true, true, true, true, true, true, true, true, true, true, true, true, true, true, true, true, true, true, true, true, false, false, false, false, false, false, false, false, false, false, false, false, false, false, false, false, false, false, false, false, false, false, false, false, false, false, false, false, false, false, false, false, false, false, false, false, false, false, false, false, false, false, false, false, false, false, false, false, false] rfl rfl (any_of HT_.out (by kernel_rfl)) (fun _ _ _ h => h) (Or.inl ⟨by rfl, ?_⟩) ?_ ?_
      rotate_left
      · intro w'
        go_simp
        with_reducible rfl
      rotate_left
      · simp only [Act.put, List.setIfInBounds_toArray, List.set_cons_zero, List.set_cons_succ, i64_w, i32_w]
        rfl
      refine pure_ (i := 25) (N := some 115) (v := ?_) (a' := ?_) #[true, true, true, true, true, true, true, true, true, true, true, true, true, true, true, true, true, true, true, true, true, true, true, true, true, true, false, false, false, false, false, false, false, false, false, false, false, false, false, false, false, false, false, false, false, false, false, false, false, false, false, false, false, false, false, false, false, false, false, false, false, false, false, false, false, false, false, false, false, false, false, false, false, false] rfl rfl (any_of HT_.out (by kernel_rfl)) (fun _ _ _ h => h) (Or.inl ⟨by rfl, ?_⟩) ?_ ?_
      rotate_left
      · intro w'
        go_simp
        with_reducible rfl
      rotate_left
      · simp only [Act.put, List.setIfInBounds_toArray, List.set_cons_zero, List.set_cons_succ, i64_w, i32_w]
        rfl
      refine pure_ (i := 26) (N := some 116) (v := ?_) (a' := ?_) #[true, true, true, true, true, true, true, true, true, true, true, true, true, true, true, true, true, true, true, true, true, true, true, true, true, true, true, false, false, false, false, false, false, false, false, false, false, false, false, false, false, false, false, false, false, false, false, false, false, false, false, false, false, false, false, false, false, false, false, false, false, false, false, false, false, false, false, false, false, false, false, false, false, false] rfl rfl (any_of HT_.out (by kernel_rfl)) (fun _ _ _ h => h) (Or.inl ⟨by rfl, ?_⟩) ?_ ?_
      rotate_left
      · intro w'
        go_simp
        with_reducible rfl
      rotate_left
      · simp only [Act.put, List.setIfInBounds_toArray, List.set_cons_zero, List.set_cons_succ, i64_w, i32_w]
        rfl
      refine pure_ (i := 27) (N := some 117) (v := ?_) (a' := ?_) #[true, true, true, true, true, true, true, true, true, true, true, true, true, true, true, true, true, true, true, true, true, true, true, true, true, true, true, true, false, false, false, false, false, false, false, false, false, false, false, false, false, false, false, false, false, false, false, false, false, false, false, false, false, false, false, false, false, false, false, false, false, false, false, false, false, false, false, false, false, false, false, false, false, false] rfl rfl (any_of HT_.out (by kernel_rfl)) (fun _ _ _ h => h) (Or.inl ⟨by rfl, ?_⟩) ?_ ?_
      rotate_left
      · intro w'
        go_simp
        with_reducible rfl
      rotate_left
      · simp only [Act.put, List.setIfInBounds_toArray, List.set_cons_zero, List.set_cons_succ, i64_w, i32_w]
        rfl
      refine pure_ (i := 30) (N := some 120) (v := ?_) (a' := ?_) #[true, true, true, true, true, true, true, true, true, true, true, true, true, true, true, true, true, true, true, true, true, true, true, true, true, true, true, true, false, false, true, false, false, false, false, false, false, false, false, false, false, false, false, false, false, false, false, false, false, false, false, false, false, false, false, false, false, false, false, false, false, false, false, false, false, false, false, false, false, false, false, false, false, false] rfl rfl (any_of HT_.out (by kernel_rfl)) (fun _ _ _ h => h) (Or.inl ⟨by rfl, ?_⟩) ?_ ?_
      rotate_left
      · intro w'
        go_simp
        with_reducible rfl
      rotate_left
      · simp only [Act.put, List.setIfInBounds_toArray, List.set_cons_zero, List.set_cons_succ, i64_w, i32_w]
        rfl
      refine pure_ (i := 31) (N := some 121) (v := ?_) (a' := ?_) #[true, true, true, true, true, true, true, true, true, true, true, true, true, true, true, true, true, true, true, true, true, true, true, true, true, true, true, true, false, false, true, true, false, false, false, false, false, false, false, false, false, false, false, false, false, false, false, false, false, false, false, false, false, false, false, false, false, false, false, false, false, false, false, false, false, false, false, false, false, false, false, false, false, false] rfl rfl (any_of HT_.out (by kernel_rfl)) (fun _ _ _ h => h) (Or.inl ⟨by rfl, ?_⟩) ?_ ?_
      rotate_left
      · intro w'
        go_simp
        with_reducible rfl
      rotate_left
      · simp only [Act.put, List.setIfInBounds_toArray, List.set_cons_zero, List.set_cons_succ, i64_w, i32_w]
        rfl
      refine take_ (i := 28) (N := some 118) (v := ?_) (a' := ?_) #[true, true, true, true, true, true, true, true, true, true, true, true, true, true, true, true, true, true, true, true, true, true, true, true, true, true, true, true, true, false, true, true, false, false, false, false, false, false, false, false, false, false, false, false, false, false, false, false, false, false, false, false, false, false, false, false, false, false, false, false, false, false, false, false, false, false, false, false, false, false, false, false, false, false] rfl rfl (take_ofW HT_.out HW_.out (by kernel_rfl)) (fun _ _ _ h => h) (Or.inl ⟨by rfl, ?_⟩) hHeld ?_ ?_
      rotate_left
      · rintro w' ⟨s0, s1, s2, s3, s4, s5, s6, s7, s8, s9, s10, s11, s12, s13, s14, s15, s16, s17, s18, s19, s20⟩
        go_simp
        with_reducible rfl
      rotate_left
      · simp only [Act.put, List.setIfInBounds_toArray, List.set_cons_zero, List.set_cons_succ, i64_w, i32_w]
        rfl
      refine take_ (i := 32) (N := some 122) (v := ?_) (a' := ?_) #[true, true, true, true, true, true, true, true, true, true, true, true, true, true, true, true, true, true, true, true, true, true, true, true, true, true, true, true, true, false, true, true, true, false, false, false, false, false, false, false, false, false, false, false, false, false, false, false, false, false, false, false, false, false, false, false, false, false, false, false, false, false, false, false, false, false, false, false, false, false, false, false, false, false] rfl rfl (take_ofW HT_.out HW_.out (by kernel_rfl)) (fun _ _ _ h => h) (Or.inl ⟨by rfl, ?_⟩) hHeld ?_ ?_
      rotate_left
      · rintro w' ⟨s0, s1, s2, s3, s4, s5, s6, s7, s8, s9, s10, s11, s12, s13, s14, s15, s16, s17, s18, s19, s20⟩
        go_simp
        with_reducible rfl
      rotate_left
      · simp only [Act.put, List.setIfInBounds_toArray, List.set_cons_zero, List.set_cons_succ, i64_w, i32_w]
        rfl
      refine one_ (i := 29) (N := some 119) #[true, true, true, true, true, true, true, true, true, true, true, true, true, true, true, true, true, true, true, true, true, true, true, true, true, true, true, true, true, true, true, true, true, false, false, false, false, false, false, false, false, false, false, false, false, false, false, false, false, false, false, false, false, false, false, false, false, false, false, false, false, false, false, false, false, false, false, false, false, false, false, false, false, false] rfl rfl (one_of HT_.out (by kernel_rfl)) (by decide) (fun K hK => ?_)
      refine goes_ Tryz.func23 (by kernel_rfl) rfl #[.slice A t.length c, .string s, .agg #[.int .i64 n0, .int .u32 n1, .int .u32 n2, .int .u32 n3, .int .i64 n4, .int .i64 n5, .string n6]] (by rfl) rfl rfl (by simp only [List.map_toArray, List.map_cons, List.map_nil]; rfl) ?_
      with_reducible refine (K3.out w17 HV17.out).mono ?_
      rintro e w18 ⟨v, rfl, hr, hb⟩
      refine ⟨_, rfl, ?_⟩
      have HV18 := Lib.hid (below_next HV17.out hb)
      obtain ⟨Ax1, cx1, hv, _, hC⟩ := Kd.R_reads hr
      subst hv
      have HX1 := Lib.hid hC
      clear hr hC
      clear hb
      refine hK.out _ _ ⟨(by rw [cell_of ((HV18.out.block _ (Array.getElem?_eq_some_iff.1 HA.out).1).trans HA.out)]; rfl), (by rw [cell_of ((HV18.out.block _ (Array.getElem?_eq_some_iff.1 HA.out).1).trans HA.out)]; rfl), (by rw [cell_of ((HV18.out.block _ (Array.getElem?_eq_some_iff.1 HA.out).1).trans HA.out)]; rfl), (by rw [cell_of ((HV18.out.block _ (Array.getElem?_eq_some_iff.1 HA.out).1).trans HA.out)]; rfl), (by rw [cell_of ((HV18.out.block _ (Array.getElem?_eq_some_iff.1 HA.out).1).trans HA.out)]; rfl), (by rw [cell_of ((HV18.out.block _ (Array.getElem?_eq_some_iff.1 HA.out).1).trans HA.out)]; rfl), (by rw [cell_of ((HV18.out.block _ (Array.getElem?_eq_some_iff.1 HA.out).1).trans HA.out)]; rfl), (by rw [cell_of ((HV18.out.block _ (Array.getElem?_eq_some_iff.1 HA2.out).1).trans HA2.out)]; rfl), (by rw [cell_of ((HV18.out.block _ (Array.getElem?_eq_some_iff.1 HA2.out).1).trans HA2.out)]; rfl), (by rw [cell_of ((HV18.out.block _ (Array.getElem?_eq_some_iff.1 HA2.out).1).trans HA2.out)]; rfl), (by rw [cell_of ((HV18.out.block _ (Array.getElem?_eq_some_iff.1 HA2.out).1).trans HA2.out)]; rfl), (by rw [cell_of ((HV18.out.block _ (Array.getElem?_eq_some_iff.1 HA2.out).1).trans HA2.out)]; rfl), (by rw [cell_of ((HV18.out.block _ (Array.getElem?_eq_some_iff.1 HA2.out).1).trans HA2.out)]; rfl), (by rw [cell_of ((HV18.out.block _ (Array.getElem?_eq_some_iff.1 HA2.out).1).trans HA2.out)]; rfl), (by rw [cell_of ((HV18.out.block _ (Array.getElem?_eq_some_iff.1 HN.out).1).trans HN.out)]; rfl), (by rw [cell_of ((HV18.out.block _ (Array.getElem?_eq_some_iff.1 HN.out).1).trans HN.out)]; rfl), (by rw [cell_of ((HV18.out.block _ (Array.getElem?_eq_some_iff.1 HN.out).1).trans HN.out)]; rfl), (by rw [cell_of ((HV18.out.block _ (Array.getElem?_eq_some_iff.1 HN.out).1).trans HN.out)]; rfl), (by rw [cell_of ((HV18.out.block _ (Array.getElem?_eq_some_iff.1 HN.out).1).trans HN.out)]; rfl), (by rw [cell_of ((HV18.out.block _ (Array.getElem?_eq_some_iff.1 HN.out).1).trans HN.out)]; rfl), (by rw [cell_of ((HV18.out.block _ (Array.getElem?_eq_some_iff.1 HN.out).1).trans HN.out)]; rfl)⟩ (fun hHeld => ?_)
      clear hK K
      refine norm_ (a' := ?_) ?_ ?_
      rotate_left
      · show Act.put _ (some 119) _ = _
        simp only [Act.put, List.setIfInBounds_toArray, List.set_cons_zero, List.set_cons_succ, i64_w, i32_w]
        rfl
      refine one_ (i := 33) (N := some 123) #[true, true, true, true, true, true, true, true, true, true, true, true, true, true, true, true, true, true, true, true, true, true, true, true, true, true, true, true, true, true, true, true, true, true, false, false, false, false, false, false, false, false, false, false, false, false, false, false, false, false, false, false, false, false, false, false, false, false, false, false, false, false, false, false, false, false, false, false, false, false, false, false, false, false] rfl rfl (one_of HT_.out (by kernel_rfl)) (by decide) (fun K hK => ?_)
      refine goes_ Tryz.func24 (by kernel_rfl) rfl #[.slice A t.length c, .string s, .agg #[.int .i64 n0, .int .u32 n1, .int .u32 n2, .int .u32 n3, .int .i64 n4, .int .i64 n5, .string n6]] (by rfl) rfl rfl (by simp only [List.map_toArray, List.map_cons, List.map_nil]; rfl) ?_
      with_reducible refine (K4.out w18 HV18.out).mono ?_
      rintro e w19 ⟨v, rfl, hr, hb⟩
      refine ⟨_, rfl, ?_⟩
      have HV19 := Lib.hid (below_next HV18.out hb)
      obtain ⟨Ay1, cy1, hv, _, hC⟩ := Kd.R_reads hr
      subst hv
      have HY2 := Lib.hid hC
      clear hr hC
      have HX1 := Lib.hid (Kd.C_below HX1.out hb)
      clear hb
      refine hK.out _ _ ⟨(by rw [cell_of ((HV19.out.block _ (Array.getElem?_eq_some_iff.1 HA.out).1).trans HA.out)]; rfl), (by rw [cell_of ((HV19.out.block _ (Array.getElem?_eq_some_iff.1 HA.out).1).trans HA.out)]; rfl), (by rw [cell_of ((HV19.out.block _ (Array.getElem?_eq_some_iff.1 HA.out).1).trans HA.out)]; rfl), (by rw [cell_of ((HV19.out.block _ (Array.getElem?_eq_some_iff.1 HA.out).1).trans HA.out)]; rfl), (by rw [cell_of ((HV19.out.block _ (Array.getElem?_eq_some_iff.1 HA.out).1).trans HA.out)]; rfl), (by rw [cell_of ((HV19.out.block _ (Array.getElem?_eq_some_iff.1 HA.out).1).trans HA.out)]; rfl), (by rw [cell_of ((HV19.out.block _ (Array.getElem?_eq_some_iff.1 HA.out).1).trans HA.out)]; rfl), (by rw [cell_of ((HV19.out.block _ (Array.getElem?_eq_some_iff.1 HA2.out).1).trans HA2.out)]; rfl), (by rw [cell_of ((HV19.out.block _ (Array.getElem?_eq_some_iff.1 HA2.out).1).trans HA2.out)]; rfl), (by rw [cell_of ((HV19.out.block _ (Array.getElem?_eq_some_iff.1 HA2.out).1).trans HA2.out)]; rfl), (by rw [cell_of ((HV19.out.block _ (Array.getElem?_eq_some_iff.1 HA2.out).1).trans HA2.out)]; rfl), (by rw [cell_of ((HV19.out.block _ (Array.getElem?_eq_some_iff.1 HA2.out).1).trans HA2.out)]; rfl), (by rw [cell_of ((HV19.out.block _ (Array.getElem?_eq_some_iff.1 HA2.out).1).trans HA2.out)]; rfl), (by rw [cell_of ((HV19.out.block _ (Array.getElem?_eq_some_iff.1 HA2.out).1).trans HA2.out)]; rfl), (by rw [cell_of ((HV19.out.block _ (Array.getElem?_eq_some_iff.1 HN.out).1).trans HN.out)]; rfl), (by rw [cell_of ((HV19.out.block _ (Array.getElem?_eq_some_iff.1 HN.out).1).trans HN.out)]; rfl), (by rw [cell_of ((HV19.out.block _ (Array.getElem?_eq_some_iff.1 HN.out).1).trans HN.out)]; rfl), (by rw [cell_of ((HV19.out.block _ (Array.getElem?_eq_some_iff.1 HN.out).1).trans HN.out)]; rfl), (by rw [cell_of ((HV19.out.block _ (Array.getElem?_eq_some_iff.1 HN.out).1).trans HN.out)]; rfl), (by rw [cell_of ((HV19.out.block _ (Array.getElem?_eq_some_iff.1 HN.out).1).trans HN.out)]; rfl), (by rw [cell_of ((HV19.out.block _ (Array.getElem?_eq_some_iff.1 HN.out).1).trans HN.out)]; rfl)⟩ (fun hHeld => ?_)
      clear hK K
      refine norm_ (a' := ?_) ?_ ?_
      rotate_left
      · show Act.put _ (some 123) _ = _
        simp only [Act.put, List.setIfInBounds_toArray, List.set_cons_zero, List.set_cons_succ, i64_w, i32_w]
        rfl
      refine one_ (i := 34) (N := some 124) #[true, true, true, true, true, true, true, true, true, true, true, true, true, true, true, true, true, true, true, true, true, true, true, true, true, true, true, true, true, true, true, true, true, true, true, false, false, false, false, false, false, false, false, false, false, false, false, false, false, false, false, false, false, false, false, false, false, false, false, false, false, false, false, false, false, false, false, false, false, false, false, false, false, false] rfl rfl (one_of HT_.out (by kernel_rfl)) (by decide) (fun K hK => ?_)
      refine goes_ Tryz.func11 (by kernel_rfl) rfl #[.slice Ax1 P1.length cx1, .slice Ay1 P1.length cy1] (by rfl) rfl rfl (by simp only [List.map_toArray, List.map_cons, List.map_nil]; rfl) ?_
      with_reducible refine (same_refl P1 Ax1 cx1 Ay1 cy1 w19 HX1.out HY2.out).mono ?_
      rintro e w20 ⟨rfl, hb⟩
      refine ⟨_, rfl, ?_⟩
      have HV20 := Lib.hid (below_next HV19.out hb)
      clear hb
      refine hK.out _ _ ⟨(by rw [cell_of ((HV20.out.block _ (Array.getElem?_eq_some_iff.1 HA.out).1).trans HA.out)]; rfl), (by rw [cell_of ((HV20.out.block _ (Array.getElem?_eq_some_iff.1 HA.out).1).trans HA.out)]; rfl), (by rw [cell_of ((HV20.out.block _ (Array.getElem?_eq_some_iff.1 HA.out).1).trans HA.out)]; rfl), (by rw [cell_of ((HV20.out.block _ (Array.getElem?_eq_some_iff.1 HA.out).1).trans HA.out)]; rfl), (by rw [cell_of ((HV20.out.block _ (Array.getElem?_eq_some_iff.1 HA.out).1).trans HA.out)]; rfl), (by rw [cell_of ((HV20.out.block _ (Array.getElem?_eq_some_iff.1 HA.out).1).trans HA.out)]; rfl), (by rw [cell_of ((HV20.out.block _ (Array.getElem?_eq_some_iff.1 HA.out).1).trans HA.out)]; rfl), (by rw [cell_of ((HV20.out.block _ (Array.getElem?_eq_some_iff.1 HA2.out).1).trans HA2.out)]; rfl), (by rw [cell_of ((HV20.out.block _ (Array.getElem?_eq_some_iff.1 HA2.out).1).trans HA2.out)]; rfl), (by rw [cell_of ((HV20.out.block _ (Array.getElem?_eq_some_iff.1 HA2.out).1).trans HA2.out)]; rfl), (by rw [cell_of ((HV20.out.block _ (Array.getElem?_eq_some_iff.1 HA2.out).1).trans HA2.out)]; rfl), (by rw [cell_of ((HV20.out.block _ (Array.getElem?_eq_some_iff.1 HA2.out).1).trans HA2.out)]; rfl), (by rw [cell_of ((HV20.out.block _ (Array.getElem?_eq_some_iff.1 HA2.out).1).trans HA2.out)]; rfl), (by rw [cell_of ((HV20.out.block _ (Array.getElem?_eq_some_iff.1 HA2.out).1).trans HA2.out)]; rfl), (by rw [cell_of ((HV20.out.block _ (Array.getElem?_eq_some_iff.1 HN.out).1).trans HN.out)]; rfl), (by rw [cell_of ((HV20.out.block _ (Array.getElem?_eq_some_iff.1 HN.out).1).trans HN.out)]; rfl), (by rw [cell_of ((HV20.out.block _ (Array.getElem?_eq_some_iff.1 HN.out).1).trans HN.out)]; rfl), (by rw [cell_of ((HV20.out.block _ (Array.getElem?_eq_some_iff.1 HN.out).1).trans HN.out)]; rfl), (by rw [cell_of ((HV20.out.block _ (Array.getElem?_eq_some_iff.1 HN.out).1).trans HN.out)]; rfl), (by rw [cell_of ((HV20.out.block _ (Array.getElem?_eq_some_iff.1 HN.out).1).trans HN.out)]; rfl), (by rw [cell_of ((HV20.out.block _ (Array.getElem?_eq_some_iff.1 HN.out).1).trans HN.out)]; rfl)⟩ (fun hHeld => ?_)
      clear hK K
      refine norm_ (a' := ?_) ?_ ?_
      rotate_left
      · show Act.put _ (some 124) _ = _
        simp only [Act.put, List.setIfInBounds_toArray, List.set_cons_zero, List.set_cons_succ, i64_w, i32_w]
        rfl
      refine pure_ (i := 35) (N := some 125) (v := ?_) (a' := ?_) #[true, true, true, true, true, true, true, true, true, true, true, true, true, true, true, true, true, true, true, true, true, true, true, true, true, true, true, true, true, true, true, true, true, true, true, true, false, false, false, false, false, false, false, false, false, false, false, false, false, false, false, false, false, false, false, false, false, false, false, false, false, false, false, false, false, false, false, false, false, false, false, false, false, false] rfl rfl (any_of HT_.out (by kernel_rfl)) (fun _ _ _ h => h) (Or.inl ⟨by rfl, ?_⟩) ?_ ?_
      rotate_left
      · intro w'
        go_simp
        with_reducible rfl
      rotate_left
      · simp only [Act.put, List.setIfInBounds_toArray, List.set_cons_zero, List.set_cons_succ, i64_w, i32_w]
        rfl
      refine pure_ (i := 36) (N := some 126) (v := ?_) (a' := ?_) #[true, true, true, true, true, true, true, true, true, true, true, true, true, true, true, true, true, true, true, true, true, true, true, true, true, true, true, true, true, true, true, true, true, true, true, true, true, false, false, false, false, false, false, false, false, false, false, false, false, false, false, false, false, false, false, false, false, false, false, false, false, false, false, false, false, false, false, false, false, false, false, false, false, false] rfl rfl (any_of HT_.out (by kernel_rfl)) (fun _ _ _ h => h) (Or.inl ⟨by rfl, ?_⟩) ?_ ?_
      rotate_left
      · intro w'
        go_simp
        with_reducible rfl
      rotate_left
      · simp only [Act.put, List.setIfInBounds_toArray, List.set_cons_zero, List.set_cons_succ, i64_w, i32_w]
        rfl
      refine pure_ (i := 37) (N := some 127) (v := ?_) (a' := ?_) #[true, true, true, true, true, true, true, true, true, true, true, true, true, true, true, true, true, true, true, true, true, true, true, true, true, true, true, true, true, true, true, true, true, true, true, true, true, true, false, false, false, false, false, false, false, false, false, false, false, false, false, false, false, false, false, false, false, false, false, false, false, false, false, false, false, false, false, false, false, false, false, false, false, false] rfl rfl (any_of HT_.out (by kernel_rfl)) (fun _ _ _ h => h) (Or.inl ⟨by rfl, ?_⟩) ?_ ?_
      rotate_left
      · intro w'
        go_simp
        with_reducible rfl
      rotate_left
      · simp only [Act.put, List.setIfInBounds_toArray, List.set_cons_zero, List.set_cons_succ, i64_w, i32_w]
        rfl
      refine pure_ (i := 38) (N := some 128) (v := ?_) (a' := ?_) #[true, true, true, true, true, true, true, true, true, true, true, true, true, true, true, true, true, true, true, true, true, true, true, true, true, true, true, true, true, true, true, true, true, true, true, true, true, true, true, false, false, false, false, false, false, false, false, false, false, false, false, false, false, false, false, false, false, false, false, false, false, false, false, false, false, false, false, false, false, false, false, false, false, false] rfl rfl (any_of HT_.out (by kernel_rfl)) (fun _ _ _ h => h) (Or.inl ⟨by rfl, ?_⟩) ?_ ?_
      rotate_left
      · intro w'
        go_simp
        with_reducible rfl
      rotate_left
      · simp only [Act.put, List.setIfInBounds_toArray, List.set_cons_zero, List.set_cons_succ, i64_w, i32_w]
        rfl
      refine pure_ (i := 40) (N := some 130) (v := ?_) (a' := ?_) #[true, true, true, true, true, true, true, true, true, true, true, true, true, true, true, true, true, true, true, true, true, true, true, true, true, true, true, true, true, true, true, true, true, true, true, true, true, true, true, false, true, false, false, false, false, false, false, false, false, false, false, false, false, false, false, false, false, false, false, false, false, false, false, false, false, false, false, false, false, false, false, false, false, false] rfl rfl (any_of HT_.out (by kernel_rfl)) (fun _ _ _ h => h) (Or.inl ⟨by rfl, ?_⟩) ?_ ?_
      rotate_left
      · intro w'
        go_simp
        with_reducible rfl
      rotate_left
      · simp only [Act.put, List.setIfInBounds_toArray, List.set_cons_zero, List.set_cons_succ, i64_w, i32_w]
        rfl
      refine pure_ (i := 41) (N := some 131) (v := ?_) (a' := ?_) #[true, true, true, true, true, true, true, true, true, true, true, true, true, true, true, true, true, true, true, true, true, true, true, true, true, true, true, true, true, true, true, true, true, true, true, true, true, true, true, false, true, true, false, false, false, false, false, false, false, false, false, false, false, false, false, false, false, false, false, false, false, false, false, false, false, false, false, false, false, false, false, false, false, false] rfl rfl (any_of HT_.out (by kernel_rfl)) (fun _ _ _ h => h) (Or.inl ⟨by rfl, ?_⟩) ?_ ?_
      rotate_left
      · intro w'
        go_simp
        with_reducible rfl
      rotate_left
      · simp only [Act.put, List.setIfInBounds_toArray, List.set_cons_zero, List.set_cons_succ, i64_w, i32_w]
        rfl
      refine one_ (i := 39) (N := some 129) #[true, true, true, true, true, true, true, true, true, true, true, true, true, true, true, true, true, true, true, true, true, true, true, true, true, true, true, true, true, true, true, true, true, true, true, true, true, true, true, true, true, true, false, false, false, false, false, false, false, false, false, false, false, false, false, false, false, false, false, false, false, false, false, false, false, false, false, false, false, false, false, false, false, false] rfl rfl (one_of HT_.out (by kernel_rfl)) (by decide) (fun K hK => ?_)
      refine goes_ Tryz.func25 (by kernel_rfl) rfl #[.slice A t.length c, .string s] (by rfl) rfl rfl (by simp only [List.map_toArray, List.map_cons, List.map_nil]; rfl) ?_
      with_reducible refine (K5.out w20 HV20.out).mono ?_
      rintro e w21 ⟨v, rfl, hr, hb⟩
      refine ⟨_, rfl, ?_⟩
      have HV21 := Lib.hid (below_next HV20.out hb)
      obtain ⟨Ax2, cx2, hv, _, hC⟩ := Kd.R_reads hr
      subst hv
      have HX2 := Lib.hid hC
      clear hr hC
      clear hb
      refine hK.out _ _ ⟨(by rw [cell_of ((HV21.out.block _ (Array.getElem?_eq_some_iff.1 HA.out).1).trans HA.out)]; rfl), (by rw [cell_of ((HV21.out.block _ (Array.getElem?_eq_some_iff.1 HA.out).1).trans HA.out)]; rfl), (by rw [cell_of ((HV21.out.block _ (Array.getElem?_eq_some_iff.1 HA.out).1).trans HA.out)]; rfl), (by rw [cell_of ((HV21.out.block _ (Array.getElem?_eq_some_iff.1 HA.out).1).trans HA.out)]; rfl), (by rw [cell_of ((HV21.out.block _ (Array.getElem?_eq_some_iff.1 HA.out).1).trans HA.out)]; rfl), (by rw [cell_of ((HV21.out.block _ (Array.getElem?_eq_some_iff.1 HA.out).1).trans HA.out)]; rfl), (by rw [cell_of ((HV21.out.block _ (Array.getElem?_eq_some_iff.1 HA.out).1).trans HA.out)]; rfl), (by rw [cell_of ((HV21.out.block _ (Array.getElem?_eq_some_iff.1 HA2.out).1).trans HA2.out)]; rfl), (by rw [cell_of ((HV21.out.block _ (Array.getElem?_eq_some_iff.1 HA2.out).1).trans HA2.out)]; rfl), (by rw [cell_of ((HV21.out.block _ (Array.getElem?_eq_some_iff.1 HA2.out).1).trans HA2.out)]; rfl), (by rw [cell_of ((HV21.out.block _ (Array.getElem?_eq_some_iff.1 HA2.out).1).trans HA2.out)]; rfl), (by rw [cell_of ((HV21.out.block _ (Array.getElem?_eq_some_iff.1 HA2.out).1).trans HA2.out)]; rfl), (by rw [cell_of ((HV21.out.block _ (Array.getElem?_eq_some_iff.1 HA2.out).1).trans HA2.out)]; rfl), (by rw [cell_of ((HV21.out.block _ (Array.getElem?_eq_some_iff.1 HA2.out).1).trans HA2.out)]; rfl), (by rw [cell_of ((HV21.out.block _ (Array.getElem?_eq_some_iff.1 HN.out).1).trans HN.out)]; rfl), (by rw [cell_of ((HV21.out.block _ (Array.getElem?_eq_some_iff.1 HN.out).1).trans HN.out)]; rfl), (by rw [cell_of ((HV21.out.block _ (Array.getElem?_eq_some_iff.1 HN.out).1).trans HN.out)]; rfl), (by rw [cell_of ((HV21.out.block _ (Array.getElem?_eq_some_iff.1 HN.out).1).trans HN.out)]; rfl), (by rw [cell_of ((HV21.out.block _ (Array.getElem?_eq_some_iff.1 HN.out).1).trans HN.out)]; rfl), (by rw [cell_of ((HV21.out.block _ (Array.getElem?_eq_some_iff.1 HN.out).1).trans HN.out)]; rfl), (by rw [cell_of ((HV21.out.block _ (Array.getElem?_eq_some_iff.1 HN.out).1).trans HN.out)]; rfl)⟩ (fun hHeld => ?_)
      clear hK K
      refine norm_ (a' := ?_) ?_ ?_
      rotate_left
      · show Act.put _ (some 129) _ = _
        simp only [Act.put, List.setIfInBounds_toArray, List.set_cons_zero, List.set_cons_succ, i64_w, i32_w]
        rfl
      refine one_ (i := 42) (N := some 132) #[true, true, true, true, true, true, true, true, true, true, true, true, true, true, true, true, true, true, true, true, true, true, true, true, true, true, true, true, true, true, true, true, true, true, true, true, true, true, true, true, true, true, true, false, false, false, false, false, false, false, false, false, false, false, false, false, false, false, false, false, false, false, false, false, false, false, false, false, false, false, false, false, false, false] rfl rfl (one_of HT_.out (by kernel_rfl)) (by decide) (fun K hK => ?_)
      refine goes_ Tryz.func26 (by kernel_rfl) rfl #[.slice A t.length c, .string s] (by rfl) rfl rfl (by simp only [List.map_toArray, List.map_cons, List.map_nil]; rfl) ?_
      with_reducible refine (K6.out w21 HV21.out).mono ?_
      rintro e w22 ⟨v, rfl, hr, hb⟩
      refine ⟨_, rfl, ?_⟩
      have HV22 := Lib.hid (below_next HV21.out hb)
      obtain ⟨Ay2, cy2, hv, _, hC⟩ := Kd.R_reads hr
      subst hv
      have HY3 := Lib.hid hC
      clear hr hC
      have HX2 := Lib.hid (Kd.C_below HX2.out hb)
      clear hb
      refine hK.out _ _ ⟨(by rw [cell_of ((HV22.out.block _ (Array.getElem?_eq_some_iff.1 HA.out).1).trans HA.out)]; rfl), (by rw [cell_of ((HV22.out.block _ (Array.getElem?_eq_some_iff.1 HA.out).1).trans HA.out)]; rfl), (by rw [cell_of ((HV22.out.block _ (Array.getElem?_eq_some_iff.1 HA.out).1).trans HA.out)]; rfl), (by rw [cell_of ((HV22.out.block _ (Array.getElem?_eq_some_iff.1 HA.out).1).trans HA.out)]; rfl), (by rw [cell_of ((HV22.out.block _ (Array.getElem?_eq_some_iff.1 HA.out).1).trans HA.out)]; rfl), (by rw [cell_of ((HV22.out.block _ (Array.getElem?_eq_some_iff.1 HA.out).1).trans HA.out)]; rfl), (by rw [cell_of ((HV22.out.block _ (Array.getElem?_eq_some_iff.1 HA.out).1).trans HA.out)]; rfl), (by rw [cell_of ((HV22.out.block _ (Array.getElem?_eq_some_iff.1 HA2.out).1).trans HA2.out)]; rfl), (by rw [cell_of ((HV22.out.block _ (Array.getElem?_eq_some_iff.1 HA2.out).1).trans HA2.out)]; rfl), (by rw [cell_of ((HV22.out.block _ (Array.getElem?_eq_some_iff.1 HA2.out).1).trans HA2.out)]; rfl), (by rw [cell_of ((HV22.out.block _ (Array.getElem?_eq_some_iff.1 HA2.out).1).trans HA2.out)]; rfl), (by rw [cell_of ((HV22.out.block _ (Array.getElem?_eq_some_iff.1 HA2.out).1).trans HA2.out)]; rfl), (by rw [cell_of ((HV22.out.block _ (Array.getElem?_eq_some_iff.1 HA2.out).1).trans HA2.out)]; rfl), (by rw [cell_of ((HV22.out.block _ (Array.getElem?_eq_some_iff.1 HA2.out).1).trans HA2.out)]; rfl), (by rw [cell_of ((HV22.out.block _ (Array.getElem?_eq_some_iff.1 HN.out).1).trans HN.out)]; rfl), (by rw [cell_of ((HV22.out.block _ (Array.getElem?_eq_some_iff.1 HN.out).1).trans HN.out)]; rfl), (by rw [cell_of ((HV22.out.block _ (Array.getElem?_eq_some_iff.1 HN.out).1).trans HN.out)]; rfl), (by rw [cell_of ((HV22.out.block _ (Array.getElem?_eq_some_iff.1 HN.out).1).trans HN.out)]; rfl), (by rw [cell_of ((HV22.out.block _ (Array.getElem?_eq_some_iff.1 HN.out).1).trans HN.out)]; rfl), (by rw [cell_of ((HV22.out.block _ (Array.getElem?_eq_some_iff.1 HN.out).1).trans HN.out)]; rfl), (by rw [cell_of ((HV22.out.block _ (Array.getElem?_eq_some_iff.1 HN.out).1).trans HN.out)]; rfl)⟩ (fun hHeld => ?_)
      clear hK K
      refine norm_ (a' := ?_) ?_ ?_
      rotate_left
      · show Act.put _ (some 132) _ = _
        simp only [Act.put, List.setIfInBounds_toArray, List.set_cons_zero, List.set_cons_succ, i64_w, i32_w]
        rfl
      refine one_ (i := 43) (N := some 133) #[true, true, true, true, true, true, true, true, true, true, true, true, true, true, true, true, true, true, true, true, true, true, true, true, true, true, true, true, true, true, true, true, true, true, true, true, true, true, true, true, true, true, true, true, false, false, false, false, false, false, false, false, false, false, false, false, false, false, false, false, false, false, false, false, false, false, false, false, false, false, false, false, false, false] rfl rfl (one_of HT_.out (by kernel_rfl)) (by decide) (fun K hK => ?_)
      refine goes_ Tryz.func11 (by kernel_rfl) rfl #[.slice Ax2 P2.length cx2, .slice Ay2 P2.length cy2] (by rfl) rfl rfl (by simp only [List.map_toArray, List.map_cons, List.map_nil]; rfl) ?_
      with_reducible refine (same_refl P2 Ax2 cx2 Ay2 cy2 w22 HX2.out HY3.out).mono ?_
      rintro e w23 ⟨rfl, hb⟩
      refine ⟨_, rfl, ?_⟩
      have HV23 := Lib.hid (below_next HV22.out hb)
      clear hb
      refine hK.out _ _ ⟨(by rw [cell_of ((HV23.out.block _ (Array.getElem?_eq_some_iff.1 HA.out).1).trans HA.out)]; rfl), (by rw [cell_of ((HV23.out.block _ (Array.getElem?_eq_some_iff.1 HA.out).1).trans HA.out)]; rfl), (by rw [cell_of ((HV23.out.block _ (Array.getElem?_eq_some_iff.1 HA.out).1).trans HA.out)]; rfl), (by rw [cell_of ((HV23.out.block _ (Array.getElem?_eq_some_iff.1 HA.out).1).trans HA.out)]; rfl), (by rw [cell_of ((HV23.out.block _ (Array.getElem?_eq_some_iff.1 HA.out).1).trans HA.out)]; rfl), (by rw [cell_of ((HV23.out.block _ (Array.getElem?_eq_some_iff.1 HA.out).1).trans HA.out)]; rfl), (by rw [cell_of ((HV23.out.block _ (Array.getElem?_eq_some_iff.1 HA.out).1).trans HA.out)]; rfl), (by rw [cell_of ((HV23.out.block _ (Array.getElem?_eq_some_iff.1 HA2.out).1).trans HA2.out)]; rfl), (by rw [cell_of ((HV23.out.block _ (Array.getElem?_eq_some_iff.1 HA2.out).1).trans HA2.out)]; rfl), (by rw [cell_of ((HV23.out.block _ (Array.getElem?_eq_some_iff.1 HA2.out).1).trans HA2.out)]; rfl), (by rw [cell_of ((HV23.out.block _ (Array.getElem?_eq_some_iff.1 HA2.out).1).trans HA2.out)]; rfl), (by rw [cell_of ((HV23.out.block _ (Array.getElem?_eq_some_iff.1 HA2.out).1).trans HA2.out)]; rfl), (by rw [cell_of ((HV23.out.block _ (Array.getElem?_eq_some_iff.1 HA2.out).1).trans HA2.out)]; rfl), (by rw [cell_of ((HV23.out.block _ (Array.getElem?_eq_some_iff.1 HA2.out).1).trans HA2.out)]; rfl), (by rw [cell_of ((HV23.out.block _ (Array.getElem?_eq_some_iff.1 HN.out).1).trans HN.out)]; rfl), (by rw [cell_of ((HV23.out.block _ (Array.getElem?_eq_some_iff.1 HN.out).1).trans HN.out)]; rfl), (by rw [cell_of ((HV23.out.block _ (Array.getElem?_eq_some_iff.1 HN.out).1).trans HN.out)]; rfl), (by rw [cell_of ((HV23.out.block _ (Array.getElem?_eq_some_iff.1 HN.out).1).trans HN.out)]; rfl), (by rw [cell_of ((HV23.out.block _ (Array.getElem?_eq_some_iff.1 HN.out).1).trans HN.out)]; rfl), (by rw [cell_of ((HV23.out.block _ (Array.getElem?_eq_some_iff.1 HN.out).1).trans HN.out)]; rfl), (by rw [cell_of ((HV23.out.block _ (Array.getElem?_eq_some_iff.1 HN.out).1).trans HN.out)]; rfl)⟩ (fun hHeld => ?_)
      clear hK K
      refine norm_ (a' := ?_) ?_ ?_
      rotate_left
      · show Act.put _ (some 133) _ = _
        simp only [Act.put, List.setIfInBounds_toArray, List.set_cons_zero, List.set_cons_succ, i64_w, i32_w]
        rfl
      refine pure_ (i := 44) (N := some 134) (v := ?_) (a' := ?_) #[true, true, true, true, true, true, true, true, true, true, true, true, true, true, true, true, true, true, true, true, true, true, true, true, true, true, true, true, true, true, true, true, true, true, true, true, true, true, true, true, true, true, true, true, true, false, false, false, false, false, false, false, false, false, false, false, false, false, false, false, false, false, false, false, false, false, false, false, false, false, false, false, false, false] rfl rfl (any_of HT_.out (by kernel_rfl)) (fun _ _ _ h => h) (Or.inl ⟨by rfl, ?_⟩) ?_ ?_
      rotate_left
      · intro w'
        go_simp
        with_reducible rfl
      rotate_left
      · simp only [Act.put, List.setIfInBounds_toArray, List.set_cons_zero, List.set_cons_succ, i64_w, i32_w]
        rfl
      refine pure_ (i := 45) (N := some 135) (v := ?_) (a' := ?_) #[true, true, true, true, true, true, true, true, true, true, true, true, true, true, true, true, true, true, true, true, true, true, true, true, true, true, true, true, true, true, true, true, true, true, true, true, true, true, true, true, true, true, true, true, true, true, false, false, false, false, false, false, false, false, false, false, false, false, false, false, false, false, false, false, false, false, false, false, false, false, false, false, false, false] rfl rfl (any_of HT_.out (by kernel_rfl)) (fun _ _ _ h => h) (Or.inl ⟨by rfl, ?_⟩) ?_ ?_
      rotate_left
      · intro w'
        go_simp
        with_reducible rfl
      rotate_left
      · simp only [Act.put, List.setIfInBounds_toArray, List.set_cons_zero, List.set_cons_succ, i64_w, i32_w]
        rfl
      refine pure_ (i := 46) (N := some 136) (v := ?_) (a' := ?_) #[true, true, true, true, true, true, true, true, true, true, true, true, true, true, true, true, true, true, true, true, true, true, true, true, true, true, true, true, true, true, true, true, true, true, true, true, true, true, true, true, true, true, true, true, true, true, true, false, false, false, false, false, false, false, false, false, false, false, false, false, false, false, false, false, false, false, false, false, false, false, false, false, false, false] rfl rfl (any_of HT_.out (by kernel_rfl)) (fun _ _ _ h => h) (Or.inl ⟨by rfl, ?_⟩) ?_ ?_
      rotate_left
      · intro w'
        go_simp
        with_reducible rfl
      rotate_left
      · simp only [Act.put, List.setIfInBounds_toArray, List.set_cons_zero, List.set_cons_succ, i64_w, i32_w]
        rfl
      refine pure_ (i := 48) (N := some 138) (v := ?_) (a' := ?_) #[true, true, true, true, true, true, true, true, true, true, true, true, true, true, true, true, true, true, true, true, true, true, true, true, true, true, true, true, true, true, true, true, true, true, true, true, true, true, true, true, true, true, true, true, true, true, true, false, true, false, false, false, false, false, false, false, false, false, false, false, false, false, false, false, false, false, false, false, false, false, false, false, false, false] rfl rfl (any_of HT_.out (by kernel_rfl)) (fun _ _ _ h => h) (Or.inl ⟨by rfl, ?_⟩) ?_ ?_
      rotate_left
      · intro w'
        go_simp
        with_reducible rfl
      rotate_left
      · simp only [Act.put, List.setIfInBounds_toArray, List.set_cons_zero, List.set_cons_succ, i64_w, i32_w]
        rfl
      refine one_ (i := 47) (N := some 137) #[true, true, true, true, true, true, true, true, true, true, true, true, true, true, true, true, true, true, true, true, true, true, true, true, true, true, true, true, true, true, true, true, true, true, true, true, true, true, true, true, true, true, true, true, true, true, true, true, true, false, false, false, false, false, false, false, false, false, false, false, false, false, false, false, false, false, false, false, false, false, false, false, false, false] rfl rfl (one_of HT_.out (by kernel_rfl)) (by decide) (fun K hK => ?_)
      refine goes_ Tryz.func27 (by kernel_rfl) rfl #[.slice A t.length c] (by rfl) rfl rfl (by simp only [List.map_toArray, List.map_cons, List.map_nil]; rfl) ?_
      with_reducible refine (K7.out w23 HV23.out).mono ?_
      rintro e w24 ⟨v, rfl, hr, hb⟩
      refine ⟨_, rfl, ?_⟩
      have HV24 := Lib.hid (below_next HV23.out hb)
      obtain ⟨Ax3, cx3, hv, _, hC⟩ := Kd.R_reads hr
      subst hv
      have HX3 := Lib.hid hC
      clear hr hC
      clear hb
      refine hK.out _ _ ⟨(by rw [cell_of ((HV24.out.block _ (Array.getElem?_eq_some_iff.1 HA.out).1).trans HA.out)]; rfl), (by rw [cell_of ((HV24.out.block _ (Array.getElem?_eq_some_iff.1 HA.out).1).trans HA.out)]; rfl), (by rw [cell_of ((HV24.out.block _ (Array.getElem?_eq_some_iff.1 HA.out).1).trans HA.out)]; rfl), (by rw [cell_of ((HV24.out.block _ (Array.getElem?_eq_some_iff.1 HA.out).1).trans HA.out)]; rfl), (by rw [cell_of ((HV24.out.block _ (Array.getElem?_eq_some_iff.1 HA.out).1).trans HA.out)]; rfl), (by rw [cell_of ((HV24.out.block _ (Array.getElem?_eq_some_iff.1 HA.out).1).trans HA.out)]; rfl), (by rw [cell_of ((HV24.out.block _ (Array.getElem?_eq_some_iff.1 HA.out).1).trans HA.out)]; rfl), (by rw [cell_of ((HV24.out.block _ (Array.getElem?_eq_some_iff.1 HA2.out).1).trans HA2.out)]; rfl), (by rw [cell_of ((HV24.out.block _ (Array.getElem?_eq_some_iff.1 HA2.out).1).trans HA2.out)]; rfl), (by rw [cell_of ((HV24.out.block _ (Array.getElem?_eq_some_iff.1 HA2.out).1).trans HA2.out)]; rfl), (by rw [cell_of ((HV24.out.block _ (Array.getElem?_eq_some_iff.1 HA2.out).1).trans HA2.out)]; rfl), (by rw [cell_of ((HV24.out.block _ (Array.getElem?_eq_some_iff.1 HA2.out).1).trans HA2.out)]; rfl), (by rw [cell_of ((HV24.out.block _ (Array.getElem?_eq_some_iff.1 HA2.out).1).trans HA2.out)]; rfl), (by rw [cell_of ((HV24.out.block _ (Array.getElem?_eq_some_iff.1 HA2.out).1).trans HA2.out)]; rfl), (by rw [cell_of ((HV24.out.block _ (Array.getElem?_eq_some_iff.1 HN.out).1).trans HN.out)]; rfl), (by rw [cell_of ((HV24.out.block _ (Array.getElem?_eq_some_iff.1 HN.out).1).trans HN.out)]; rfl), (by rw [cell_of ((HV24.out.block _ (Array.getElem?_eq_some_iff.1 HN.out).1).trans HN.out)]; rfl), (by rw [cell_of ((HV24.out.block _ (Array.getElem?_eq_some_iff.1 HN.out).1).trans HN.out)]; rfl), (by rw [cell_of ((HV24.out.block _ (Array.getElem?_eq_some_iff.1 HN.out).1).trans HN.out)]; rfl), (by rw [cell_of ((HV24.out.block _ (Array.getElem?_eq_some_iff.1 HN.out).1).trans HN.out)]; rfl), (by rw [cell_of ((HV24.out.block _ (Array.getElem?_eq_some_iff.1 HN.out).1).trans HN.out)]; rfl)⟩ (fun hHeld => ?_)
      clear hK K
      refine norm_ (a' := ?_) ?_ ?_
      rotate_left
      · show Act.put _ (some 137) _ = _
        simp only [Act.put, List.setIfInBounds_toArray, List.set_cons_zero, List.set_cons_succ, i64_w, i32_w]
        rfl
      refine one_ (i := 49) (N := some 139) #[true, true, true, true, true, true, true, true, true, true, true, true, true, true, true, true, true, true, true, true, true, true, true, true, true, true, true, true, true, true, true, true, true, true, true, true, true, true, true, true, true, true, true, true, true, true, true, true, true, true, false, false, false, false, false, false, false, false, false, false, false, false, false, false, false, false, false, false, false, false, false, false, false, false] rfl rfl (one_of HT_.out (by kernel_rfl)) (by decide) (fun K hK => ?_)
      refine goes_ Tryz.func28 (by kernel_rfl) rfl #[.slice A t.length c] (by rfl) rfl rfl (by simp only [List.map_toArray, List.map_cons, List.map_nil]; rfl) ?_
      with_reducible refine (K8.out w24 HV24.out).mono ?_
      rintro e w25 ⟨v, rfl, hr, hb⟩
      refine ⟨_, rfl, ?_⟩
      have HV25 := Lib.hid (below_next HV24.out hb)
      obtain ⟨Ay3, cy3, hv, _, hC⟩ := Kd.R_reads hr
      subst hv
      have HY4 := Lib.hid hC
      clear hr hC
      have HX3 := Lib.hid (Kd.C_below HX3.out hb)
      clear hb
      refine hK.out _ _ ⟨(by rw [cell_of ((HV25.out.block _ (Array.getElem?_eq_some_iff.1 HA.out).1).trans HA.out)]; rfl), (by rw [cell_of ((HV25.out.block _ (Array.getElem?_eq_some_iff.1 HA.out).1).trans HA.out)]; rfl), (by rw [cell_of ((HV25.out.block _ (Array.getElem?_eq_some_iff.1 HA.out).1).trans HA.out)]; rfl), (by rw [cell_of ((HV25.out.block _ (Array.getElem?_eq_some_iff.1 HA.out).1).trans HA.out)]; rfl), (by rw [cell_of ((HV25.out.block _ (Array.getElem?_eq_some_iff.1 HA.out).1).trans HA.out)]; rfl), (by rw [cell_of ((HV25.out.block _ (Array.getElem?_eq_some_iff.1 HA.out).1).trans HA.out)]; rfl), (by rw [cell_of ((HV25.out.block _ (Array.getElem?_eq_some_iff.1 HA.out).1).trans HA.out)]; rfl), (by rw [cell_of ((HV25.out.block _ (Array.getElem?_eq_some_iff.1 HA2.out).1).trans HA2.out)]; rfl), (by rw [cell_of ((HV25.out.block _ (Array.getElem?_eq_some_iff.1 HA2.out).1).trans HA2.out)]; rfl), (by rw [cell_of ((HV25.out.block _ (Array.getElem?_eq_some_iff.1 HA2.out).1).trans HA2.out)]; rfl), (by rw [cell_of ((HV25.out.block _ (Array.getElem?_eq_some_iff.1 HA2.out).1).trans HA2.out)]; rfl), (by rw [cell_of ((HV25.out.block _ (Array.getElem?_eq_some_iff.1 HA2.out).1).trans HA2.out)]; rfl), (by rw [cell_of ((HV25.out.block _ (Array.getElem?_eq_some_iff.1 HA2.out).1).trans HA2.out)]; rfl), (by rw [cell_of ((HV25.out.block _ (Array.getElem?_eq_some_iff.1 HA2.out).1).trans HA2.out)]; rfl), (by rw [cell_of ((HV25.out.block _ (Array.getElem?_eq_some_iff.1 HN.out).1).trans HN.out)]; rfl), (by rw [cell_of ((HV25.out.block _ (Array.getElem?_eq_some_iff.1 HN.out).1).trans HN.out)]; rfl), (by rw [cell_of ((HV25.out.block _ (Array.getElem?_eq_some_iff.1 HN.out).1).trans HN.out)]; rfl), (by rw [cell_of ((HV25.out.block _ (Array.getElem?_eq_some_iff.1 HN.out).1).trans HN.out)]; rfl), (by rw [cell_of ((HV25.out.block _ (Array.getElem?_eq_some_iff.1 HN.out).1).trans HN.out)]; rfl), (by rw [cell_of ((HV25.out.block _ (Array.getElem?_eq_some_iff.1 HN.out).1).trans HN.out)]; rfl), (by rw [cell_of ((HV25.out.block _ (Array.getElem?_eq_some_iff.1 HN.out).1).trans HN.out)]; rfl)⟩ (fun hHeld => ?_)
      clear hK K
      refine norm_ (a' := ?_) ?_ ?_
      rotate_left
      · show Act.put _ (some 139) _ = _
        simp only [Act.put, List.setIfInBounds_toArray, List.set_cons_zero, List.set_cons_succ, i64_w, i32_w]
        rfl
      refine one_ (i := 50) (N := some 140) #[true, true, true, true, true, true, true, true, true, true, true, true, true, true, true, true, true, true, true, true, true, true, true, true, true, true, true, true, true, true, true, true, true, true, true, true, true, true, true, true, true, true, true, true, true, true, true, true, true, true, true, false, false, false, false, false, false, false, false, false, false, false, false, false, false, false, false, false, false, false, false, false, false, false] rfl rfl (one_of HT_.out (by kernel_rfl)) (by decide) (fun K hK => ?_)
      refine goes_ Tryz.func11 (by kernel_rfl) rfl #[.slice Ax3 P3.length cx3, .slice Ay3 P3.length cy3] (by rfl) rfl rfl (by simp only [List.map_toArray, List.map_cons, List.map_nil]; rfl) ?_
      with_reducible refine (same_refl P3 Ax3 cx3 Ay3 cy3 w25 HX3.out HY4.out).mono ?_
      rintro e w26 ⟨rfl, hb⟩
      refine ⟨_, rfl, ?_⟩
      have HV26 := Lib.hid (below_next HV25.out hb)
      clear hb
      refine hK.out _ _ ⟨(by rw [cell_of ((HV26.out.block _ (Array.getElem?_eq_some_iff.1 HA.out).1).trans HA.out)]; rfl), (by rw [cell_of ((HV26.out.block _ (Array.getElem?_eq_some_iff.1 HA.out).1).trans HA.out)]; rfl), (by rw [cell_of ((HV26.out.block _ (Array.getElem?_eq_some_iff.1 HA.out).1).trans HA.out)]; rfl), (by rw [cell_of ((HV26.out.block _ (Array.getElem?_eq_some_iff.1 HA.out).1).trans HA.out)]; rfl), (by rw [cell_of ((HV26.out.block _ (Array.getElem?_eq_some_iff.1 HA.out).1).trans HA.out)]; rfl), (by rw [cell_of ((HV26.out.block _ (Array.getElem?_eq_some_iff.1 HA.out).1).trans HA.out)]; rfl), (by rw [cell_of ((HV26.out.block _ (Array.getElem?_eq_some_iff.1 HA.out).1).trans HA.out)]; rfl), (by rw [cell_of ((HV26.out.block _ (Array.getElem?_eq_some_iff.1 HA2.out).1).trans HA2.out)]; rfl), (by rw [cell_of ((HV26.out.block _ (Array.getElem?_eq_some_iff.1 HA2.out).1).trans HA2.out)]; rfl), (by rw [cell_of ((HV26.out.block _ (Array.getElem?_eq_some_iff.1 HA2.out).1).trans HA2.out)]; rfl), (by rw [cell_of ((HV26.out.block _ (Array.getElem?_eq_some_iff.1 HA2.out).1).trans HA2.out)]; rfl), (by rw [cell_of ((HV26.out.block _ (Array.getElem?_eq_some_iff.1 HA2.out).1).trans HA2.out)]; rfl), (by rw [cell_of ((HV26.out.block _ (Array.getElem?_eq_some_iff.1 HA2.out).1).trans HA2.out)]; rfl), (by rw [cell_of ((HV26.out.block _ (Array.getElem?_eq_some_iff.1 HA2.out).1).trans HA2.out)]; rfl), (by rw [cell_of ((HV26.out.block _ (Array.getElem?_eq_some_iff.1 HN.out).1).trans HN.out)]; rfl), (by rw [cell_of ((HV26.out.block _ (Array.getElem?_eq_some_iff.1 HN.out).1).trans HN.out)]; rfl), (by rw [cell_of ((HV26.out.block _ (Array.getElem?_eq_some_iff.1 HN.out).1).trans HN.out)]; rfl), (by rw [cell_of ((HV26.out.block _ (Array.getElem?_eq_some_iff.1 HN.out).1).trans HN.out)]; rfl), (by rw [cell_of ((HV26.out.block _ (Array.getElem?_eq_some_iff.1 HN.out).1).trans HN.out)]; rfl), (by rw [cell_of ((HV26.out.block _ (Array.getElem?_eq_some_iff.1 HN.out).1).trans HN.out)]; rfl), (by rw [cell_of ((HV26.out.block _ (Array.getElem?_eq_some_iff.1 HN.out).1).trans HN.out)]; rfl)⟩ (fun hHeld => ?_)
      clear hK K
      refine norm_ (a' := ?_) ?_ ?_
      rotate_left
      · show Act.put _ (some 140) _ = _
        simp only [Act.put, List.setIfInBounds_toArray, List.set_cons_zero, List.set_cons_succ, i64_w, i32_w]
        rfl
      refine pure_ (i := 51) (N := some 141) (v := ?_) (a' := ?_) #[true, true, true, true, true, true, true, true, true, true, true, true, true, true, true, true, true, true, true, true, true, true, true, true, true, true, true, true, true, true, true, true, true, true, true, true, true, true, true, true, true, true, true, true, true, true, true, true, true, true, true, true, false, false, false, false, false, false, false, false, false, false, false, false, false, false, false, false, false, false, false, false, false, false] rfl rfl (any_of HT_.out (by kernel_rfl)) (fun _ _ _ h => h) (Or.inl ⟨by rfl, ?_⟩) ?_ ?_
      rotate_left
      · intro w'
        go_simp
        with_reducible rfl
      rotate_left
      · simp only [Act.put, List.setIfInBounds_toArray, List.set_cons_zero, List.set_cons_succ, i64_w, i32_w]
        rfl
      refine pure_ (i := 52) (N := some 142) (v := ?_) (a' := ?_) #[true, true, true, true, true, true, true, true, true, true, true, true, true, true, true, true, true, true, true, true, true, true, true, true, true, true, true, true, true, true, true, true, true, true, true, true, true, true, true, true, true, true, true, true, true, true, true, true, true, true, true, true, true, false, false, false, false, false, false, false, false, false, false, false, false, false, false, false, false, false, false, false, false, false] rfl rfl (any_of HT_.out (by kernel_rfl)) (fun _ _ _ h => h) (Or.inl ⟨by rfl, ?_⟩) ?_ ?_
      rotate_left
      · intro w'
        go_simp
        with_reducible rfl
      rotate_left
      · simp only [Act.put, List.setIfInBounds_toArray, List.set_cons_zero, List.set_cons_succ, i64_w, i32_w]
        rfl
      refine pure_ (i := 53) (N := some 143) (v := ?_) (a' := ?_) #[true, true, true, true, true, true, true, true, true, true, true, true, true, true, true, true, true, true, true, true, true, true, true, true, true, true, true, true, true, true, true, true, true, true, true, true, true, true, true, true, true, true, true, true, true, true, true, true, true, true, true, true, true, true, false, false, false, false, false, false, false, false, false, false, false, false, false, false, false, false, false, false, false, false] rfl rfl (any_of HT_.out (by kernel_rfl)) (fun _ _ _ h => h) (Or.inl ⟨by rfl, ?_⟩) ?_ ?_
      rotate_left
      · intro w'
        go_simp
        with_reducible rfl
      rotate_left
      · simp only [Act.put, List.setIfInBounds_toArray, List.set_cons_zero, List.set_cons_succ, i64_w, i32_w]
        rfl
      refine pure_ (i := 55) (N := some 145) (v := ?_) (a' := ?_) #[true, true, true, true, true, true, true, true, true, true, true, true, true, true, true, true, true, true, true, true, true, true, true, true, true, true, true, true, true, true, true, true, true, true, true, true, true, true, true, true, true, true, true, true, true, true, true, true, true, true, true, true, true, true, false, true, false, false, false, false, false, false, false, false, false, false, false, false, false, false, false, false, false, false] rfl rfl (any_of HT_.out (by kernel_rfl)) (fun _ _ _ h => h) (Or.inl ⟨by rfl, ?_⟩) ?_ ?_
      rotate_left
      · intro w'
        go_simp
        with_reducible rfl
      rotate_left
      · simp only [Act.put, List.setIfInBounds_toArray, List.set_cons_zero, List.set_cons_succ, i64_w, i32_w]
        rfl
      refine one_ (i := 54) (N := some 144) #[true, true, true, true, true, true, true, true, true, true, true, true, true, true, true, true, true, true, true, true, true, true, true, true, true, true, true, true, true, true, true, true, true, true, true, true, true, true, true, true, true, true, true, true, true, true, true, true, true, true, true, true, true, true, true, true, false, false, false, false, false, false, false, false, false, false, false, false, false, false, false, false, false, false] rfl rfl (one_of HT_.out (by kernel_rfl)) (by decide) (fun K hK => ?_)
      refine goes_ Tryz.func29 (by kernel_rfl) rfl #[.slice A t.length c] (by rfl) rfl rfl (by simp only [List.map_toArray, List.map_cons, List.map_nil]; rfl) ?_
      with_reducible refine (K9.out w26 HV26.out).mono ?_
      rintro e w27 ⟨rfl, hb⟩
      refine ⟨_, rfl, ?_⟩
      have HV27 := Lib.hid (below_next HV26.out hb)
      clear hb
      refine hK.out _ _ ⟨(by rw [cell_of ((HV27.out.block _ (Array.getElem?_eq_some_iff.1 HA.out).1).trans HA.out)]; rfl), (by rw [cell_of ((HV27.out.block _ (Array.getElem?_eq_some_iff.1 HA.out).1).trans HA.out)]; rfl), (by rw [cell_of ((HV27.out.block _ (Array.getElem?_eq_some_iff.1 HA.out).1).trans HA.out)]; rfl), (by rw [cell_of ((HV27.out.block _ (Array.getElem?_eq_some_iff.1 HA.out).1).trans HA.out)]; rfl), (by rw [cell_of ((HV27.out.block _ (Array.getElem?_eq_some_iff.1 HA.out).1).trans HA.out)]; rfl), (by rw [cell_of ((HV27.out.block _ (Array.getElem?_eq_some_iff.1 HA.out).1).trans HA.out)]; rfl), (by rw [cell_of ((HV27.out.block _ (Array.getElem?_eq_some_iff.1 HA.out).1).trans HA.out)]; rfl), (by rw [cell_of ((HV27.out.block _ (Array.getElem?_eq_some_iff.1 HA2.out).1).trans HA2.out)]; rfl), (by rw [cell_of ((HV27.out.block _ (Array.getElem?_eq_some_iff.1 HA2.out).1).trans HA2.out)]; rfl), (by rw [cell_of ((HV27.out.block _ (Array.getElem?_eq_some_iff.1 HA2.out).1).trans HA2.out)]; rfl), (by rw [cell_of ((HV27.out.block _ (Array.getElem?_eq_some_iff.1 HA2.out).1).trans HA2.out)]; rfl), (by rw [cell_of ((HV27.out.block _ (Array.getElem?_eq_some_iff.1 HA2.out).1).trans HA2.out)]; rfl), (by rw [cell_of ((HV27.out.block _ (Array.getElem?_eq_some_iff.1 HA2.out).1).trans HA2.out)]; rfl), (by rw [cell_of ((HV27.out.block _ (Array.getElem?_eq_some_iff.1 HA2.out).1).trans HA2.out)]; rfl), (by rw [cell_of ((HV27.out.block _ (Array.getElem?_eq_some_iff.1 HN.out).1).trans HN.out)]; rfl), (by rw [cell_of ((HV27.out.block _ (Array.getElem?_eq_some_iff.1 HN.out).1).trans HN.out)]; rfl), (by rw [cell_of ((HV27.out.block _ (Array.getElem?_eq_some_iff.1 HN.out).1).trans HN.out)]; rfl), (by rw [cell_of ((HV27.out.block _ (Array.getElem?_eq_some_iff.1 HN.out).1).trans HN.out)]; rfl), (by rw [cell_of ((HV27.out.block _ (Array.getElem?_eq_some_iff.1 HN.out).1).trans HN.out)]; rfl), (by rw [cell_of ((HV27.out.block _ (Array.getElem?_eq_some_iff.1 HN.out).1).trans HN.out)]; rfl), (by rw [cell_of ((HV27.out.block _ (Array.getElem?_eq_some_iff.1 HN.out).1).trans HN.out)]; rfl)⟩ (fun hHeld => ?_)
      clear hK K
      refine norm_ (a' := ?_) ?_ ?_
      rotate_left
      · show Act.put _ (some 144) _ = _
        simp only [Act.put, List.setIfInBounds_toArray, List.set_cons_zero, List.set_cons_succ, i64_w, i32_w]
        rfl
      refine one_ (i := 56) (N := some 146) #[true, true, true, true, true, true, true, true, true, true, true, true, true, true, true, true, true, true, true, true, true, true, true, true, true, true, true, true, true, true, true, true, true, true, true, true, true, true, true, true, true, true, true, true, true, true, true, true, true, true, true, true, true, true, true, true, true, false, false, false, false, false, false, false, false, false, false, false, false, false, false, false, false, false] rfl rfl (one_of HT_.out (by kernel_rfl)) (by decide) (fun K hK => ?_)
      refine goes_ Tryz.func30 (by kernel_rfl) rfl #[.slice A t.length c] (by rfl) rfl rfl (by simp only [List.map_toArray, List.map_cons, List.map_nil]; rfl) ?_
      with_reducible refine (K10.out w27 HV27.out).mono ?_
      rintro e w28 ⟨rfl, hb⟩
      refine ⟨_, rfl, ?_⟩
      have HV28 := Lib.hid (below_next HV27.out hb)
      clear hb
      refine hK.out _ _ ⟨(by rw [cell_of ((HV28.out.block _ (Array.getElem?_eq_some_iff.1 HA.out).1).trans HA.out)]; rfl), (by rw [cell_of ((HV28.out.block _ (Array.getElem?_eq_some_iff.1 HA.out).1).trans HA.out)]; rfl), (by rw [cell_of ((HV28.out.block _ (Array.getElem?_eq_some_iff.1 HA.out).1).trans HA.out)]; rfl), (by rw [cell_of ((HV28.out.block _ (Array.getElem?_eq_some_iff.1 HA.out).1).trans HA.out)]; rfl), (by rw [cell_of ((HV28.out.block _ (Array.getElem?_eq_some_iff.1 HA.out).1).trans HA.out)]; rfl), (by rw [cell_of ((HV28.out.block _ (Array.getElem?_eq_some_iff.1 HA.out).1).trans HA.out)]; rfl), (by rw [cell_of ((HV28.out.block _ (Array.getElem?_eq_some_iff.1 HA.out).1).trans HA.out)]; rfl), (by rw [cell_of ((HV28.out.block _ (Array.getElem?_eq_some_iff.1 HA2.out).1).trans HA2.out)]; rfl), (by rw [cell_of ((HV28.out.block _ (Array.getElem?_eq_some_iff.1 HA2.out).1).trans HA2.out)]; rfl), (by rw [cell_of ((HV28.out.block _ (Array.getElem?_eq_some_iff.1 HA2.out).1).trans HA2.out)]; rfl), (by rw [cell_of ((HV28.out.block _ (Array.getElem?_eq_some_iff.1 HA2.out).1).trans HA2.out)]; rfl), (by rw [cell_of ((HV28.out.block _ (Array.getElem?_eq_some_iff.1 HA2.out).1).trans HA2.out)]; rfl), (by rw [cell_of ((HV28.out.block _ (Array.getElem?_eq_some_iff.1 HA2.out).1).trans HA2.out)]; rfl), (by rw [cell_of ((HV28.out.block _ (Array.getElem?_eq_some_iff.1 HA2.out).1).trans HA2.out)]; rfl), (by rw [cell_of ((HV28.out.block _ (Array.getElem?_eq_some_iff.1 HN.out).1).trans HN.out)]; rfl), (by rw [cell_of ((HV28.out.block _ (Array.getElem?_eq_some_iff.1 HN.out).1).trans HN.out)]; rfl), (by rw [cell_of ((HV28.out.block _ (Array.getElem?_eq_some_iff.1 HN.out).1).trans HN.out)]; rfl), (by rw [cell_of ((HV28.out.block _ (Array.getElem?_eq_some_iff.1 HN.out).1).trans HN.out)]; rfl), (by rw [cell_of ((HV28.out.block _ (Array.getElem?_eq_some_iff.1 HN.out).1).trans HN.out)]; rfl), (by rw [cell_of ((HV28.out.block _ (Array.getElem?_eq_some_iff.1 HN.out).1).trans HN.out)]; rfl), (by rw [cell_of ((HV28.out.block _ (Array.getElem?_eq_some_iff.1 HN.out).1).trans HN.out)]; rfl)⟩ (fun hHeld => ?_)
      clear hK K
      refine norm_ (a' := ?_) ?_ ?_
      rotate_left
      · show Act.put _ (some 146) _ = _
        simp only [Act.put, List.setIfInBounds_toArray, List.set_cons_zero, List.set_cons_succ, i64_w, i32_w]
        rfl
      refine pure_ (i := 57) (N := some 147) (v := ?_) (a' := ?_) #[true, true, true, true, true, true, true, true, true, true, true, true, true, true, true, true, true, true, true, true, true, true, true, true, true, true, true, true, true, true, true, true, true, true, true, true, true, true, true, true, true, true, true, true, true, true, true, true, true, true, true, true, true, true, true, true, true, true, false, false, false, false, false, false, false, false, false, false, false, false, false, false, false, false] rfl rfl (any_of HT_.out (by kernel_rfl)) (fun _ _ _ h => h) (Or.inl ⟨by rfl, ?_⟩) ?_ ?_
      rotate_left
      · intro w'
        go_simp
        with_reducible rfl
      rotate_left
      · simp only [Act.put, List.setIfInBounds_toArray, List.set_cons_zero, List.set_cons_succ, i64_w, i32_w]
        rfl
      refine pure_ (i := 58) (N := some 148) (v := ?_) (a' := ?_) #[true, true, true, true, true, true, true, true, true, true, true, true, true, true, true, true, true, true, true, true, true, true, true, true, true, true, true, true, true, true, true, true, true, true, true, true, true, true, true, true, true, true, true, true, true, true, true, true, true, true, true, true, true, true, true, true, true, true, true, false, false, false, false, false, false, false, false, false, false, false, false, false, false, false] rfl rfl (any_of HT_.out (by kernel_rfl)) (fun _ _ _ h => h) (Or.inl ⟨by rfl, ?_⟩) ?_ ?_
      rotate_left
      · intro w'
        go_simp
        with_reducible rfl
      rotate_left
      · simp only [Act.put, List.setIfInBounds_toArray, List.set_cons_zero, List.set_cons_succ, i64_w, i32_w]
        rfl
      refine pure_ (i := 59) (N := some 149) (v := ?_) (a' := ?_) #[true, true, true, true, true, true, true, true, true, true, true, true, true, true, true, true, true, true, true, true, true, true, true, true, true, true, true, true, true, true, true, true, true, true, true, true, true, true, true, true, true, true, true, true, true, true, true, true, true, true, true, true, true, true, true, true, true, true, true, true, false, false, false, false, false, false, false, false, false, false, false, false, false, false] rfl rfl (any_of HT_.out (by kernel_rfl)) (fun _ _ _ h => h) (Or.inl ⟨by rfl, ?_⟩) ?_ ?_
      rotate_left
      · intro w'
        go_simp
        with_reducible rfl
      rotate_left
      · simp only [Act.put, List.setIfInBounds_toArray, List.set_cons_zero, List.set_cons_succ, i64_w, i32_w]
        rfl
      refine pure_ (i := 60) (N := some 150) (v := ?_) (a' := ?_) #[true, true, true, true, true, true, true, true, true, true, true, true, true, true, true, true, true, true, true, true, true, true, true, true, true, true, true, true, true, true, true, true, true, true, true, true, true, true, true, true, true, true, true, true, true, true, true, true, true, true, true, true, true, true, true, true, true, true, true, true, true, false, false, false, false, false, false, false, false, false, false, false, false, false] rfl rfl (any_of HT_.out (by kernel_rfl)) (fun _ _ _ h => h) (Or.inl ⟨by rfl, ?_⟩) ?_ ?_
      rotate_left
      · intro w'
        go_simp
        with_reducible rfl
      rotate_left
      · simp only [Act.put, List.setIfInBounds_toArray, List.set_cons_zero, List.set_cons_succ, i64_w, i32_w]
        rfl
      refine pure_ (i := 61) (N := some 151) (v := ?_) (a' := ?_) #[true, true, true, true, true, true, true, true, true, true, true, true, true, true, true, true, true, true, true, true, true, true, true, true, true, true, true, true, true, true, true, true, true, true, true, true, true, true, true, true, true, true, true, true, true, true, true, true, true, true, true, true, true, true, true, true, true, true, true, true, true, true, false, false, false, false, false, false, false, false, false, false, false, false] rfl rfl (any_of HT_.out (by kernel_rfl)) (fun _ _ _ h => h) (Or.inl ⟨by rfl, ?_⟩) ?_ ?_
      rotate_left
      · intro w'
        go_simp
        with_reducible rfl
      rotate_left
      · simp only [Act.put, List.setIfInBounds_toArray, List.set_cons_zero, List.set_cons_succ, i64_w, i32_w]
        rfl
      refine pure_ (i := 63) (N := some 153) (v := ?_) (a' := ?_) #[true, true, true, true, true, true, true, true, true, true, true, true, true, true, true, true, true, true, true, true, true, true, true, true, true, true, true, true, true, true, true, true, true, true, true, true, true, true, true, true, true, true, true, true, true, true, true, true, true, true, true, true, true, true, true, true, true, true, true, true, true, true, false, true, false, false, false, false, false, false, false, false, false, false] rfl rfl (any_of HT_.out (by kernel_rfl)) (fun _ _ _ h => h) (Or.inl ⟨by rfl, ?_⟩) ?_ ?_
      rotate_left
      · intro w'
        go_simp
        with_reducible rfl
      rotate_left
      · simp only [Act.put, List.setIfInBounds_toArray, List.set_cons_zero, List.set_cons_succ, i64_w, i32_w]
        rfl
      refine pure_ (i := 64) (N := some 154) (v := ?_) (a' := ?_) #[true, true, true, true, true, true, true, true, true, true, true, true, true, true, true, true, true, true, true, true, true, true, true, true, true, true, true, true, true, true, true, true, true, true, true, true, true, true, true, true, true, true, true, true, true, true, true, true, true, true, true, true, true, true, true, true, true, true, true, true, true, true, false, true, true, false, false, false, false, false, false, false, false, false] rfl rfl (any_of HT_.out (by kernel_rfl)) (fun _ _ _ h => h) (Or.inl ⟨by rfl, ?_⟩) ?_ ?_
      rotate_left
      · intro w'
        go_simp
        with_reducible rfl
      rotate_left
      · simp only [Act.put, List.setIfInBounds_toArray, List.set_cons_zero, List.set_cons_succ, i64_w, i32_w]
        rfl
      refine one_ (i := 62) (N := some 152) #[true, true, true, true, true, true, true, true, true, true, true, true, true, true, true, true, true, true, true, true, true, true, true, true, true, true, true, true, true, true, true, true, true, true, true, true, true, true, true, true, true, true, true, true, true, true, true, true, true, true, true, true, true, true, true, true, true, true, true, true, true, true, true, true, true, false, false, false, false, false, false, false, false, false] rfl rfl (one_of HT_.out (by kernel_rfl)) (by decide) (fun K hK => ?_)
      refine goes_ Tryz.func31 (by kernel_rfl) rfl #[.slice A t.length c, .slice Bd u.length d] (by rfl) rfl rfl (by simp only [List.map_toArray, List.map_cons, List.map_nil]; rfl) ?_
      with_reducible refine (K11.out w28 HV28.out).mono ?_
      rintro e w29 ⟨rfl, hb⟩
      refine ⟨_, rfl, ?_⟩
      have HV29 := Lib.hid (below_next HV28.out hb)
      clear hb
      refine hK.out _ _ ⟨(by rw [cell_of ((HV29.out.block _ (Array.getElem?_eq_some_iff.1 HA.out).1).trans HA.out)]; rfl), (by rw [cell_of ((HV29.out.block _ (Array.getElem?_eq_some_iff.1 HA.out).1).trans HA.out)]; rfl), (by rw [cell_of ((HV29.out.block _ (Array.getElem?_eq_some_iff.1 HA.out).1).trans HA.out)]; rfl), (by rw [cell_of ((HV29.out.block _ (Array.getElem?_eq_some_iff.1 HA.out).1).trans HA.out)]; rfl), (by rw [cell_of ((HV29.out.block _ (Array.getElem?_eq_some_iff.1 HA.out).1).trans HA.out)]; rfl), (by rw [cell_of ((HV29.out.block _ (Array.getElem?_eq_some_iff.1 HA.out).1).trans HA.out)]; rfl), (by rw [cell_of ((HV29.out.block _ (Array.getElem?_eq_some_iff.1 HA.out).1).trans HA.out)]; rfl), (by rw [cell_of ((HV29.out.block _ (Array.getElem?_eq_some_iff.1 HA2.out).1).trans HA2.out)]; rfl), (by rw [cell_of ((HV29.out.block _ (Array.getElem?_eq_some_iff.1 HA2.out).1).trans HA2.out)]; rfl), (by rw [cell_of ((HV29.out.block _ (Array.getElem?_eq_some_iff.1 HA2.out).1).trans HA2.out)]; rfl), (by rw [cell_of ((HV29.out.block _ (Array.getElem?_eq_some_iff.1 HA2.out).1).trans HA2.out)]; rfl), (by rw [cell_of ((HV29.out.block _ (Array.getElem?_eq_some_iff.1 HA2.out).1).trans HA2.out)]; rfl), (by rw [cell_of ((HV29.out.block _ (Array.getElem?_eq_some_iff.1 HA2.out).1).trans HA2.out)]; rfl), (by rw [cell_of ((HV29.out.block _ (Array.getElem?_eq_some_iff.1 HA2.out).1).trans HA2.out)]; rfl), (by rw [cell_of ((HV29.out.block _ (Array.getElem?_eq_some_iff.1 HN.out).1).trans HN.out)]; rfl), (by rw [cell_of ((HV29.out.block _ (Array.getElem?_eq_some_iff.1 HN.out).1).trans HN.out)]; rfl), (by rw [cell_of ((HV29.out.block _ (Array.getElem?_eq_some_iff.1 HN.out).1).trans HN.out)]; rfl), (by rw [cell_of ((HV29.out.block _ (Array.getElem?_eq_some_iff.1 HN.out).1).trans HN.out)]; rfl), (by rw [cell_of ((HV29.out.block _ (Array.getElem?_eq_some_iff.1 HN.out).1).trans HN.out)]; rfl), (by rw [cell_of ((HV29.out.block _ (Array.getElem?_eq_some_iff.1 HN.out).1).trans HN.out)]; rfl), (by rw [cell_of ((HV29.out.block _ (Array.getElem?_eq_some_iff.1 HN.out).1).trans HN.out)]; rfl)⟩ (fun hHeld => ?_)
      clear hK K
      refine norm_ (a' := ?_) ?_ ?_
      rotate_left
      · show Act.put _ (some 152) _ = _
        simp only [Act.put, List.setIfInBounds_toArray, List.set_cons_zero, List.set_cons_succ, i64_w, i32_w]
        rfl
      refine one_ (i := 65) (N := some 155) #[true, true, true, true, true, true, true, true, true, true, true, true, true, true, true, true, true, true, true, true, true, true, true, true, true, true, true, true, true, true, true, true, true, true, true, true, true, true, true, true, true, true, true, true, true, true, true, true, true, true, true, true, true, true, true, true, true, true, true, true, true, true, true, true, true, true, false, false, false, false, false, false, false, false] rfl rfl (one_of HT_.out (by kernel_rfl)) (by decide) (fun K hK => ?_)
      refine goes_ Tryz.func11 (by kernel_rfl) rfl #[.slice A t.length c, .slice Bd u.length d] (by rfl) rfl rfl (by simp only [List.map_toArray, List.map_cons, List.map_nil]; rfl) ?_
      with_reducible refine (K12.out w29 HV29.out).mono ?_
      rintro e w30 ⟨rfl, hb⟩
      refine ⟨_, rfl, ?_⟩
      have HV30 := Lib.hid (below_next HV29.out hb)
      clear hb
      refine hK.out _ _ ⟨(by rw [cell_of ((HV30.out.block _ (Array.getElem?_eq_some_iff.1 HA.out).1).trans HA.out)]; rfl), (by rw [cell_of ((HV30.out.block _ (Array.getElem?_eq_some_iff.1 HA.out).1).trans HA.out)]; rfl), (by rw [cell_of ((HV30.out.block _ (Array.getElem?_eq_some_iff.1 HA.out).1).trans HA.out)]; rfl), (by rw [cell_of ((HV30.out.block _ (Array.getElem?_eq_some_iff.1 HA.out).1).trans HA.out)]; rfl), (by rw [cell_of ((HV30.out.block _ (Array.getElem?_eq_some_iff.1 HA.out).1).trans HA.out)]; rfl), (by rw [cell_of ((HV30.out.block _ (Array.getElem?_eq_some_iff.1 HA.out).1).trans HA.out)]; rfl), (by rw [cell_of ((HV30.out.block _ (Array.getElem?_eq_some_iff.1 HA.out).1).trans HA.out)]; rfl), (by rw [cell_of ((HV30.out.block _ (Array.getElem?_eq_some_iff.1 HA2.out).1).trans HA2.out)]; rfl), (by rw [cell_of ((HV30.out.block _ (Array.getElem?_eq_some_iff.1 HA2.out).1).trans HA2.out)]; rfl), (by rw [cell_of ((HV30.out.block _ (Array.getElem?_eq_some_iff.1 HA2.out).1).trans HA2.out)]; rfl), (by rw [cell_of ((HV30.out.block _ (Array.getElem?_eq_some_iff.1 HA2.out).1).trans HA2.out)]; rfl), (by rw [cell_of ((HV30.out.block _ (Array.getElem?_eq_some_iff.1 HA2.out).1).trans HA2.out)]; rfl), (by rw [cell_of ((HV30.out.block _ (Array.getElem?_eq_some_iff.1 HA2.out).1).trans HA2.out)]; rfl), (by rw [cell_of ((HV30.out.block _ (Array.getElem?_eq_some_iff.1 HA2.out).1).trans HA2.out)]; rfl), (by rw [cell_of ((HV30.out.block _ (Array.getElem?_eq_some_iff.1 HN.out).1).trans HN.out)]; rfl), (by rw [cell_of ((HV30.out.block _ (Array.getElem?_eq_some_iff.1 HN.out).1).trans HN.out)]; rfl), (by rw [cell_of ((HV30.out.block _ (Array.getElem?_eq_some_iff.1 HN.out).1).trans HN.out)]; rfl), (by rw [cell_of ((HV30.out.block _ (Array.getElem?_eq_some_iff.1 HN.out).1).trans HN.out)]; rfl), (by rw [cell_of ((HV30.out.block _ (Array.getElem?_eq_some_iff.1 HN.out).1).trans HN.out)]; rfl), (by rw [cell_of ((HV30.out.block _ (Array.getElem?_eq_some_iff.1 HN.out).1).trans HN.out)]; rfl), (by rw [cell_of ((HV30.out.block _ (Array.getElem?_eq_some_iff.1 HN.out).1).trans HN.out)]; rfl)⟩ (fun hHeld => ?_)
      clear hK K
      refine norm_ (a' := ?_) ?_ ?_
      rotate_left
      · show Act.put _ (some 155) _ = _
        simp only [Act.put, List.setIfInBounds_toArray, List.set_cons_zero, List.set_cons_succ, i64_w, i32_w]
        rfl
      refine pure_ (i := 66) (N := some 156) (v := ?_) (a' := ?_) #[true, true, true, true, true, true, true, true, true, true, true, true, true, true, true, true, true, true, true, true, true, true, true, true, true, true, true, true, true, true, true, true, true, true, true, true, true, true, true, true, true, true, true, true, true, true, true, true, true, true, true, true, true, true, true, true, true, true, true, true, true, true, true, true, true, true, true, false, false, false, false, false, false, false] rfl rfl (any_of HT_.out (by kernel_rfl)) (fun _ _ _ h => h) (Or.inl ⟨by rfl, ?_⟩) ?_ ?_
      rotate_left
      · intro w'
        go_simp
        with_reducible rfl
      rotate_left
      · simp only [Act.put, List.setIfInBounds_toArray, List.set_cons_zero, List.set_cons_succ, i64_w, i32_w]
        rfl
      refine pure_ (i := 67) (N := some 157) (v := ?_) (a' := ?_) #[true, true, true, true, true, true, true, true, true, true, true, true, true, true, true, true, true, true, true, true, true, true, true, true, true, true, true, true, true, true, true, true, true, true, true, true, true, true, true, true, true, true, true, true, true, true, true, true, true, true, true, true, true, true, true, true, true, true, true, true, true, true, true, true, true, true, true, true, false, false, false, false, false, false] rfl rfl (any_of HT_.out (by kernel_rfl)) (fun _ _ _ h => h) (Or.inl ⟨by rfl, ?_⟩) ?_ ?_
      rotate_left
      · intro w'
        go_simp
        with_reducible rfl
      rotate_left
      · simp only [Act.put, List.setIfInBounds_toArray, List.set_cons_zero, List.set_cons_succ, i64_w, i32_w]
        rfl
      refine pure_ (i := 68) (N := some 158) (v := ?_) (a' := ?_) #[true, true, true, true, true, true, true, true, true, true, true, true, true, true, true, true, true, true, true, true, true, true, true, true, true, true, true, true, true, true, true, true, true, true, true, true, true, true, true, true, true, true, true, true, true, true, true, true, true, true, true, true, true, true, true, true, true, true, true, true, true, true, true, true, true, true, true, true, true, false, false, false, false, false] rfl rfl (any_of HT_.out (by kernel_rfl)) (fun _ _ _ h => h) (Or.inl ⟨by rfl, ?_⟩) ?_ ?_
      rotate_left
      · intro w'
        go_simp
        with_reducible rfl
      rotate_left
      · simp only [Act.put, List.setIfInBounds_toArray, List.set_cons_zero, List.set_cons_succ, i64_w, i32_w]
        rfl
      refine pure_ (i := 69) (N := some 159) (v := ?_) (a' := ?_) #[true, true, true, true, true, true, true, true, true, true, true, true, true, true, true, true, true, true, true, true, true, true, true, true, true, true, true, true, true, true, true, true, true, true, true, true, true, true, true, true, true, true, true, true, true, true, true, true, true, true, true, true, true, true, true, true, true, true, true, true, true, true, true, true, true, true, true, true, true, true, false, false, false, false] rfl rfl (any_of HT_.out (by kernel_rfl)) (fun _ _ _ h => h) (Or.inl ⟨by rfl, ?_⟩) ?_ ?_
      rotate_left
      · intro w'
        go_simp
        with_reducible rfl
      rotate_left
      · simp only [Act.put, List.setIfInBounds_toArray, List.set_cons_zero, List.set_cons_succ, i64_w, i32_w]
        rfl
      refine pure_ (i := 70) (N := some 160) (v := ?_) (a' := ?_) #[true, true, true, true, true, true, true, true, true, true, true, true, true, true, true, true, true, true, true, true, true, true, true, true, true, true, true, true, true, true, true, true, true, true, true, true, true, true, true, true, true, true, true, true, true, true, true, true, true, true, true, true, true, true, true, true, true, true, true, true, true, true, true, true, true, true, true, true, true, true, true, false, false, false] rfl rfl (any_of HT_.out (by kernel_rfl)) (fun _ _ _ h => h) (Or.inl ⟨by rfl, ?_⟩) ?_ ?_
      rotate_left
      · intro w'
        go_simp
        with_reducible rfl
      rotate_left
      · simp only [Act.put, List.setIfInBounds_toArray, List.set_cons_zero, List.set_cons_succ, i64_w, i32_w]
        rfl
      refine last_ (i := 71) (N := some 161) #[true, true, true, true, true, true, true, true, true, true, true, true, true, true, true, true, true, true, true, true, true, true, true, true, true, true, true, true, true, true, true, true, true, true, true, true, true, true, true, true, true, true, true, true, true, true, true, true, true, true, true, true, true, true, true, true, true, true, true, true, true, true, true, true, true, true, true, true, true, true, true, true, false, false] rfl rfl (one_of HT_.out (by kernel_rfl)) (by decide) (fun K hK => ?_)
      refine goes_ Tryz.func11 (by kernel_rfl) rfl #[.slice A t.length c, .slice Aw t.length cw] (by rfl) rfl rfl (by simp only [List.map_toArray, List.map_cons, List.map_nil]; rfl) ?_
      with_reducible refine (same_refl t A c Aw cw w30 (Kd.C_below HT.out HV30.out) (Kd.C_below HWS.out HV30.out)).mono ?_
      rintro e w31 ⟨rfl, hb⟩
      refine ⟨_, rfl, ?_⟩
      have HV31 := Lib.hid (below_next HV30.out hb)
      clear hb
      refine hK.out _ _ ?_
      clear hK K
      refine norm_ (a' := ?_) ?_ ?_
      rotate_left
      · show Act.put _ (some 161) _ = _
        simp only [Act.put, List.setIfInBounds_toArray, List.set_cons_zero, List.set_cons_succ, i64_w, i32_w]
        rfl
      refine pure_ (i := 72) (N := some 162) (v := ?_) (a' := ?_) #[true, true, true, true, true, true, true, true, true, true, true, true, true, true, true, true, true, true, true, true, true, true, true, true, true, true, true, true, true, true, true, true, true, true, true, true, true, true, true, true, true, true, true, true, true, true, true, true, true, true, true, true, true, true, true, true, true, true, true, true, true, true, true, true, true, true, true, true, true, true, true, true, true, false] rfl rfl (any_of HT_.out (by kernel_rfl)) (fun _ _ _ h => h) (Or.inl ⟨by rfl, ?_⟩) ?_ ?_
      rotate_left
      · intro w'
        go_simp
        with_reducible rfl
      rotate_left
      · simp only [Act.put, List.setIfInBounds_toArray, List.set_cons_zero, List.set_cons_succ, i64_w, i32_w]
        rfl
      refine pure_ (i := 73) (N := some 10) (v := ?_) (a' := ?_) #[true, true, true, true, true, true, true, true, true, true, true, true, true, true, true, true, true, true, true, true, true, true, true, true, true, true, true, true, true, true, true, true, true, true, true, true, true, true, true, true, true, true, true, true, true, true, true, true, true, true, true, true, true, true, true, true, true, true, true, true, true, true, true, true, true, true, true, true, true, true, true, true, true, true] rfl rfl (any_of HT_.out (by kernel_rfl)) (fun _ _ _ h => h) (Or.inl ⟨by rfl, ?_⟩) ?_ ?_
      rotate_left
      · intro w'
        go_simp
        with_reducible rfl
      rotate_left
      · simp only [Act.put, List.setIfInBounds_toArray, List.set_cons_zero, List.set_cons_succ, i64_w, i32_w]
        rfl
      refine done_ (done_of HT_.out (by kernel_rfl)) ?_
      go_wp2
      go_ret
      exact ⟨rfl, by rw [HBN.out]; have h := HBN.out; subst h; exact below_next HB0.out (below_next HB14.out HV31.out)⟩
set_option maxRecDepth 100000 in
theorem walk (v0 v1 : Value) (s : ByteArray) (v3 v4 : Value) (W : World) {H : Type} {enc : TypeId × Value → H} {b0 b1 b3 b4 : Nat} {d0 d1 d3 d4 : DataW H} {p0 p1 p3 p4 : List MemPlace}
    (k0 : Value.okWide Tryz.prog W .any b0 22 v0) (h0 : DataW.Trod enc Tryz.prog W 0 (fun _ => true) true 22 v0 d0 p0)
    (k1 : Value.okWide Tryz.prog W .any b1 22 v1) (h1 : DataW.Trod enc Tryz.prog W 0 (fun _ => true) true 22 v1 d1 p1) (hs : s.size ≤ 140737488351232)
    (k3 : Value.okWide Tryz.prog W .any b3 31 v3) (h3 : DataW.Trod enc Tryz.prog W 0 (fun _ => true) true 31 v3 d3 p3)
    (k4 : Value.okWide Tryz.prog W .any b4 31 v4) (h4 : DataW.Trod enc Tryz.prog W 0 (fun _ => true) true 31 v4 d4 p4) (hg : Glob W) :
    Calls Tryz.prog 5 #[v0, v1, .string s, v3, v4] W fun e w' => e = .returned (.bool true) ∧ Below W.heap.size W w' := by
  obtain ⟨A, c, l, rfl, hl⟩ := ItemArg.open_items k0 h0
  obtain ⟨B, d, m, rfl, hm⟩ := ItemArg.open_items k1 h1
  obtain ⟨x0, x1, x2, x3, x4, x5, x6, rfl⟩ := ItemArg.open_node k3 h3
  obtain ⟨y0, y1, y2, y3, y4, y5, y6, rfl⟩ := ItemArg.open_node k4 h4
  exact does_any l m s x0 x1 x2 x3 x4 x5 x6 y0 y1 y2 y3 y4 y5 y6 A c B d W hg hl hm
end Go.Proofs.YtpjjooiamdfmfaaGreatDoor.TreeDoes
