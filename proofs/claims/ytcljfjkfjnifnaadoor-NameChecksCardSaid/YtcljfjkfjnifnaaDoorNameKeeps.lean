/- The walk of NameKeeps: a checked path and its parents are checked again as themselves. -/
import Derived.Test.YtcljfjkfjnifnaaDoorNameKeepLaw
import Derived.Test.YtcljfjkfjnifnaaDoorNameParts
import Derived.Test.YtcljfjkfjnifnaaDoorNameAny
set_option linter.unusedVariables false
set_option linter.unusedSimpArgs false
namespace Go.Proofs.YtcljfjkfjnifnaaDoor.NameKeeps
open Go.RowKit Go.Proofs.YtcljfjkfjnifnaaDoorW.PrintWords Go.Proofs.YtcljfjkfjnifnaaDoorW.PrintLast Go.Proofs.YtcljfjkfjnifnaaDoor.NameLaw Go.Proofs.YtcljfjkfjnifnaaDoor.NameCmp Go.Proofs.YtcljfjkfjnifnaaDoor.NameWalk Go.Proofs.YtcljfjkfjnifnaaDoor.NameOrd Go.Proofs.YtcljfjkfjnifnaaDoor.NameRef Go.Proofs.YtcljfjkfjnifnaaDoor.NameParts Go.Proofs.YtcljfjkfjnifnaaDoor.NameAny Go.Proofs.YtcljfjkfjnifnaaDoor.NameKeepLaw

theorem check_next {w w1 : World} (HG : Hid (Glob w)) (HB : Hid (Below w.heap.size w w1)) (s : ByteArray) (hs : s.size ≤ 100000) :
    Calls Tryd.prog 12 #[.string s] w1 fun e w' => e = .returned (.tuple #[.string (checkP s), .bool (checkD s), .int .i64 (checkE s)]) ∧ Hid (Below w.heap.size w w') :=
  (check_any s (any_all s (by omega)) w1 (HG.out.below HB.out) hs).mono fun _ _ h => ⟨h.1, Lib.hid (below_next HB.out h.2)⟩
theorem check_good {w w1 : World} (HG : Hid (Glob w)) (HB : Hid (Below w.heap.size w w1)) (p : ByteArray) (s : ByteArray) (hp : GoodP p.data.toList s.data.toList) :
    Calls Tryd.prog 12 #[.string s] w1 fun e w' => e = .returned (.tuple #[.string s, .bool false, .int .i64 0]) ∧ Hid (Below w.heap.size w w') := by
  obtain ⟨h1, h2, h3⟩ := good_check hp
  have hs := hp.size
  rw [len_data] at hs
  have h := check_next HG HB s (by omega)
  unfold checkP checkD at h
  rw [h1, if_pos rfl, if_pos rfl, h2, h3] at h
  exact h
theorem under_good {w w1 : World} (HB : Hid (Below w.heap.size w w1)) (p : ByteArray) (s : ByteArray) (hp : GoodP p.data.toList s.data.toList) :
    Calls Tryd.prog 15 #[.string p, .string s] w1 fun e w' => e = .returned (.bool true) ∧ Hid (Below w.heap.size w w') := by
  have h := under_next HB p s
  have : underT p s = true := good_under hp
  rw [this] at h
  exact h
set_option maxHeartbeats 400000 in
theorem far (a : ByteArray) (h : 3000 < a.size) (w : World) (hg : Glob w) :
    Calls Tryd.prog 6 #[.string a] w fun e w' => e = .returned (.bool true) ∧ Below w.heap.size w w' := by
  have HG := Lib.hid hg
  clear hg
  have e1 : decide (3000 < (a.size : Int)) = true := decide_eq_true (by omega)
  clear h
  go_enter Tryd.func6, Tryd.ntmps6
  go_wp2_with (go_at_call 11; refine (awake_any _ HG.out).mono ?_; rintro e w1 ⟨rfl, hb⟩)
  go_ret
  exact ⟨rfl, hb⟩
theorem empty_toList : (⟨#[]⟩ : ByteArray).toList.isEmpty = true := by rw [Lib.toList_data]; rfl
set_option maxHeartbeats 400000 in
theorem bad_any (a : ByteArray) (h : a.size ≤ 3000) (he : checkE a ≠ 0) (w : World) (hg : Glob w) :
    Calls Tryd.prog 6 #[.string a] w fun e w' => e = .returned (.bool true) ∧ Below w.heap.size w w' := by
  have HG := Lib.hid hg
  clear hg
  have e1 : decide (3000 < (a.size : Int)) = false := decide_eq_false (by omega)
  have e2 : (checkE a != 0) = true := by rw [bne_iff_ne]; exact he
  have HP := Lib.hid (show checkP a = ⟨#[]⟩ by unfold checkP; rw [if_neg he])
  have hemp := empty_toList
  clear he
  go_enter Tryd.func6, Tryd.ntmps6
  go_wp2_with (first | (go_at_call 11; refine (awake_next _ HG).mono ?_; rintro e w1 ⟨rfl, HB⟩) | (go_at_call 12; refine (check_next HG HB a (by omega)).mono ?_; clear HB; rintro e w1 ⟨rfl, HB⟩; rw [HP.out]))
  go_ret
  exact ⟨rfl, HB.out⟩
def szOf : Value → Nat | .string s => s.size | _ => 0
set_option maxHeartbeats 1000000 in
theorem ok_any (a : ByteArray) (h : a.size ≤ 3000) (he : checkE a = 0) (w : World) (hg : Glob w) :
    Calls Tryd.prog 6 #[.string a] w fun e w' => e = .returned (.bool true) ∧ Below w.heap.size w w' := by
  have HG := Lib.hid hg
  clear hg
  have e1 : decide (3000 < (a.size : Int)) = false := decide_eq_false (by omega)
  have HC : Hid (∀ (w1 : World), Hid (Below w.heap.size w w1) → Calls Tryd.prog 12 #[.string a] w1 fun e w' => e = .returned (.tuple #[.string (cutT a), .bool (isDir a), .int .i64 0]) ∧ Hid (Below w.heap.size w w')) := Lib.hid (by
    intro w1 HB
    have h := check_next HG HB a (by omega)
    unfold checkP checkD at h
    rw [he, if_pos rfl, if_pos rfl] at h
    exact h)
  have HP0 := Lib.hid (good_start a h he)
  have hps : (cutT a).size ≤ 3000 := by have := cutT_size a; omega
  generalize cutT a = p at *
  clear he
  go_enter Tryd.func6, Tryd.ntmps6
  go_wp2_with (first | (go_at_call 11; refine (awake_next _ HG).mono ?_; rintro e w1 ⟨rfl, HB⟩) | (go_at_call 12; refine (HC.out _ HB).mono ?_; clear HB; rintro e w1 ⟨rfl, HB⟩))
  go_loopw [6] (fun u wr => ∃ x : ByteArray, u = .string x ∧ x.size ≤ 3000 ∧ Hid (x = ⟨#[]⟩ ∨ GoodP p.data.toList x.data.toList) ∧ Hid (Below w.heap.size w wr)) (fun u _ => szOf u)
  case atStart => exact ⟨p, rfl, hps, Lib.hid (.inr HP0.out), HB⟩
  case round =>
    clear HB HC HP0
    obtain ⟨x, rfl, hx, HX, HB⟩ := hrel
    by_cases hz : x.toList = []
    · have q2 : x.toList.isEmpty = true := by simp [hz]
      clear hz
      go_wp2
      go_ret
      exact ⟨rfl, HB.out⟩
    · have hX : GoodP p.data.toList x.data.toList := by
        rcases HX.out with e | h
        · exact absurd (by rw [e, Lib.toList_data]) hz
        · exact h
      have q1 : (!x.toList.isEmpty) = true := by simp [hz]
      have q2 : x.toList.isEmpty = false := by simp [hz]
      have q3 : (x.toList != x.toList) = false := by simp
      have HGd := Lib.hid hX
      have ho : orderT x p ≤ 0 := under_order _ _ (good_under hX)
      have q4 : decide ((0 : Int) < orderT x p) = false := decide_eq_false (by omega)
      have hb := good_base hX
      unfold safeL at hb
      rw [← Lib.toList_data, Bool.and_eq_true, Bool.and_eq_true, bne_iff_ne, bne_iff_ne, bne_iff_ne] at hb
      obtain ⟨⟨b1, b2⟩, b3⟩ := hb
      have b1' : (baseT x).toList.isEmpty = false := by simp [b1]
      have b2' : ((baseT x).toList == [46]) = false := by rw [beq_eq_false_iff_ne]; exact b2
      have b3' : ((baseT x).toList == [46, 46]) = false := by rw [beq_eq_false_iff_ne]; exact b3
      have hpar := good_parent hX
      have hne : 0 < x.size := by
        rw [← len_data, ← Lib.toList_data]; exact List.length_pos_iff.2 hz
      have hps2 : (parentT x).size < x.size := by
        rcases hpar with e | ⟨_, e⟩
        · rw [e]; exact hne
        · exact e
      have HN : Hid (parentT x = ⟨#[]⟩ ∨ GoodP p.data.toList (parentT x).data.toList) := Lib.hid (by
        rcases hpar with e | ⟨e, _⟩
        · exact .inl e
        · exact .inr e)
      clear hX hz ho b1 b2 b3 hpar
      go_wp2_with (first | (go_at_call 12; refine (check_good HG HB p x HGd.out).mono ?_; clear HB; rintro e w1 ⟨rfl, HB⟩) | (go_at_call 15; refine (under_good HB p x HGd.out).mono ?_; clear HB; rintro e w1 ⟨rfl, HB⟩) | (go_at_call 14; refine (order_next2 HG HB x p (by omega) (by omega)).mono ?_; clear HB; rintro e w1 ⟨rfl, HB⟩) | (go_at_call 20; refine (base_next HB x (by omega)).mono ?_; clear HB; rintro e w1 ⟨rfl, HB⟩) | (go_at_call 18; refine (parent_next HB x (by omega)).mono ?_; clear HB; rintro e w1 ⟨rfl, HB⟩))
      go_roundw
      case rel => exact ⟨parentT x, rfl, by omega, HN, HB⟩
      case measure => exact hps2
theorem walk (a : ByteArray) (w0 : a.size ≤ 140737488351232) (w : World) (hg : Glob w) :
    Calls Tryd.prog 6 #[.string a] w fun e w' => e = .returned (.bool true) ∧ Below w.heap.size w w' := by
  by_cases h : 3000 < a.size
  · exact far a h w hg
  · by_cases he : checkE a = 0
    · exact ok_any a (by omega) he w hg
    · exact bad_any a (by omega) he w hg
end Go.Proofs.YtcljfjkfjnifnaaDoor.NameKeeps
