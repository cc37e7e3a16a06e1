/- The walks of NameReads and NameBack. -/
import Derived.Test.YtcljfjkfjnifnaaDoorNameDec
set_option linter.unusedVariables false
set_option linter.unusedSimpArgs false
namespace Go.Proofs.YtcljfjkfjnifnaaDoor.NameReads
open Go.RowKit Go.Proofs.YtcljfjkfjnifnaaDoorW.PrintWords Go.Proofs.YtcljfjkfjnifnaaDoorW.PrintLast Go.Proofs.YtcljfjkfjnifnaaDoor.NameLaw Go.Proofs.YtcljfjkfjnifnaaDoor.NameCmp Go.Proofs.YtcljfjkfjnifnaaDoor.NameWalk Go.Proofs.YtcljfjkfjnifnaaDoor.NameOrd Go.Proofs.YtcljfjkfjnifnaaDoor.NameRef Go.Proofs.YtcljfjkfjnifnaaDoor.NameTab Go.Proofs.YtcljfjkfjnifnaaDoor.NameCode Go.Proofs.YtcljfjkfjnifnaaDoor.NameEnc Go.Proofs.YtcljfjkfjnifnaaDoor.NameDec

theorem dec_next {w w1 : World} (HG : Hid (Glob w)) (HT : Hid (TabG w)) (HB : Hid (Below w.heap.size w w1)) (s : ByteArray) (u : Bool) (hs : s.size ≤ 90000) :
    Calls Tryd.prog 24 #[.string s, .bool u] w1 fun e w' => e = .returned (.tuple #[.string (decT s u), .int .i64 (decE s u)]) ∧ Hid (Below w.heap.size w w') :=
  (decode_any s u (by omega) w1 (HG.out.below HB.out) (HT.out.below HB.out)).mono fun _ _ h => ⟨h.1, Lib.hid (below_next HB.out h.2)⟩
theorem rdec_next {w w1 : World} (HB : Hid (Below w.heap.size w w1)) (s : ByteArray) (u : Bool) (hs : s.size ≤ 90000) :
    Calls Tryd.prog 25 #[.string s, .bool u] w1 fun e w' => e = .returned (.tuple #[.string (decT s u), .int .i64 (decE s u)]) ∧ Hid (Below w.heap.size w w') :=
  (PNm.portmanteauref10_Decode.calls (s.size + 21) s u _ _ w1 (rdecode_f s u hs _ (by omega))).mono fun _ _ h => ⟨h.1, Lib.hid (below_next HB.out h.2)⟩
theorem enc_next {w w1 : World} (HT : Hid (TabG w)) (HB : Hid (Below w.heap.size w w1)) (s : ByteArray) (hs : s.size ≤ 90000) :
    Calls Tryd.prog 26 #[.string s] w1 fun e w' => e = .returned (.tuple #[.string (encT s), .bool (encOk s)]) ∧ Hid (Below w.heap.size w w') :=
  (encode_any s (by omega) w1 (HT.out.below HB.out)).mono fun _ _ h => ⟨h.1, Lib.hid (below_next HB.out h.2)⟩
theorem renc_next {w w1 : World} (HB : Hid (Below w.heap.size w w1)) (s : ByteArray) (hs : s.size ≤ 90000) :
    Calls Tryd.prog 27 #[.string s] w1 fun e w' => e = .returned (.tuple #[.string (encT s), .bool (encOk s)]) ∧ Hid (Below w.heap.size w w') :=
  (PNm.portmanteauref10_Encode.calls (131 * s.size + 21) s _ _ w1 (rencode_f s hs _ (by omega))).mono fun _ _ h => ⟨h.1, Lib.hid (below_next HB.out h.2)⟩
set_option maxHeartbeats 400000 in
theorem reads (a : ByteArray) (u : Bool) (w0 : a.size ≤ 140737488351232) (w : World) (hg : Glob w) (ht : TabG w) :
    Calls Tryd.prog 7 #[.string a, .bool u] w fun e w' => e = .returned (.bool true) ∧ Below w.heap.size w w' := by
  have HG := Lib.hid hg
  have HT := Lib.hid ht
  clear hg ht
  by_cases h : 3000 < a.size
  · have e1 : decide (3000 < (a.size : Int)) = true := decide_eq_true (by omega)
    clear h
    go_enter Tryd.func7, Tryd.ntmps7
    go_wp2_with (go_at_call 11; refine (awake_any _ HG.out).mono ?_; rintro e w1 ⟨rfl, hb⟩)
    go_ret
    exact ⟨rfl, hb⟩
  · have e1 : decide (3000 < (a.size : Int)) = false := decide_eq_false (by omega)
    go_enter Tryd.func7, Tryd.ntmps7
    go_wp2_with (first | (go_at_call 11; refine (awake_next _ HG).mono ?_; rintro e w1 ⟨rfl, HB⟩) | (go_at_call 24; refine (dec_next HG HT HB a u (by omega)).mono ?_; clear HB; rintro e w1 ⟨rfl, HB⟩) | (go_at_call 25; refine (rdec_next HB a u (by omega)).mono ?_; clear HB; rintro e w1 ⟨rfl, HB⟩) | (go_at_call 26; refine (enc_next HT HB a (by omega)).mono ?_; clear HB; rintro e w1 ⟨rfl, HB⟩) | (go_at_call 27; refine (renc_next HB a (by omega)).mono ?_; clear HB; rintro e w1 ⟨rfl, HB⟩))
    go_ret
    exact ⟨by simp, HB.out⟩
theorem back_len (s : ByteArray) : (decT s false).size ≤ 4 * s.size := by
  unfold decT
  rw [if_neg (by simp), Lib.size_eq]
  show (decB s.data.toList).length ≤ _
  have := dec_len s.data.toList
  rw [len_data] at this; exact this
theorem back_one (s : ByteArray) : encT (decT s false) = s ∧ encOk (decT s false) = true := by
  have h : encL (decT s false).data.toList = some s.data.toList := enc_dec s.data.toList
  unfold encT encOk
  rw [h]
  exact ⟨mk_data s, rfl⟩
theorem back_no (s : ByteArray) (h : encOk s = false) : encT s = ⟨#[]⟩ := by
  unfold encOk at h
  unfold encT
  cases he : encL s.data.toList with
  | none => rfl
  | some c => rw [he] at h; cases h
theorem back_two (s : ByteArray) (h : encOk s = true) : decT (encT s) false = s := by
  unfold encOk at h
  unfold encT
  cases he : encL s.data.toList with
  | none => rw [he] at h; cases h
  | some c =>
    have := dec_enc _ _ _ (Nat.le_refl _) he
    unfold decT
    rw [if_neg (by simp)]
    show (⟨(decB c).toArray⟩ : ByteArray) = s
    rw [this]
theorem enc_size (n : Nat) : ∀ (l c : List UInt8), l.length ≤ n → encL l = some c → c.length ≤ l.length := by
  induction n with
  | zero =>
    intro l c h he
    have : l = [] := List.eq_nil_of_length_eq_zero (by omega)
    subst this
    rw [enc_nil] at he
    rw [← Option.some.inj he]; simp
  | succ n ih =>
    intro l c h he
    by_cases hne : l = []
    · subst hne
      rw [enc_nil] at he
      rw [← Option.some.inj he]; simp
    · have hl : 0 < l.length := List.length_pos_iff.2 hne
      have hw := Lib.decodeL_width l
      rw [enc_step l hne] at he
      obtain ⟨b, hb, he⟩ := Option.bind_eq_some_iff.1 he
      obtain ⟨c', hc, rfl⟩ := Option.map_eq_some_iff.1 he
      have := ih _ _ (by rw [List.length_drop]; omega) hc
      rw [List.length_drop] at this
      rw [List.length_cons]; omega
theorem encT_size (s : ByteArray) : (encT s).size ≤ s.size := by
  unfold encT
  cases he : encL s.data.toList with
  | none => show 0 ≤ _; omega
  | some c =>
    have := enc_size _ _ _ (Nat.le_refl _) he
    rw [len_data] at this
    rw [Lib.size_eq]; exact this
theorem decE_low (s : ByteArray) : decE s false = 0 := rfl
theorem dec_low {w w1 : World} (HG : Hid (Glob w)) (HT : Hid (TabG w)) (HB : Hid (Below w.heap.size w w1)) (s : ByteArray) (hs : s.size ≤ 90000) :
    Calls Tryd.prog 24 #[.string s, .bool false] w1 fun e w' => e = .returned (.tuple #[.string (decT s false), .int .i64 0]) ∧ Hid (Below w.heap.size w w') := dec_next HG HT HB s false hs
theorem back_enc {w w1 : World} (HT : Hid (TabG w)) (HB : Hid (Below w.heap.size w w1)) (s : ByteArray) (hs : s.size ≤ 9000) :
    Calls Tryd.prog 26 #[.string (decT s false)] w1 fun e w' => e = .returned (.tuple #[.string s, .bool true]) ∧ Hid (Below w.heap.size w w') := by
  have h := enc_next HT HB (decT s false) (by have := back_len s; omega)
  rw [(back_one s).1, (back_one s).2] at h
  exact h
set_option maxHeartbeats 400000 in
theorem back (a : ByteArray) (w0 : a.size ≤ 140737488351232) (w : World) (hg : Glob w) (ht : TabG w) :
    Calls Tryd.prog 8 #[.string a] w fun e w' => e = .returned (.bool true) ∧ Below w.heap.size w w' := by
  have HG := Lib.hid hg
  have HT := Lib.hid ht
  clear hg ht
  by_cases h : 3000 < a.size
  · have e1 : decide (3000 < (a.size : Int)) = true := decide_eq_true (by omega)
    clear h
    go_enter Tryd.func8, Tryd.ntmps8
    go_wp2_with (go_at_call 11; refine (awake_any _ HG.out).mono ?_; rintro e w1 ⟨rfl, hb⟩)
    go_ret
    exact ⟨rfl, hb⟩
  · have e1 : decide (3000 < (a.size : Int)) = false := decide_eq_false (by omega)
    have hes := encT_size a
    have hss : (a.toList != a.toList) = false := by simp
    cases hk : encOk a with
    | false =>
      have HN := Lib.hid (back_no a hk)
      have HK : Hid (∀ w1 : World, Hid (Below w.heap.size w w1) → Calls Tryd.prog 26 #[.string a] w1 fun e w' => e = .returned (.tuple #[.string ⟨#[]⟩, .bool false]) ∧ Hid (Below w.heap.size w w')) := Lib.hid (fun w1 HB => by
        have h := enc_next HT HB a (by omega)
        rw [hk, HN.out] at h
        exact h)
      have hemp := (show (⟨#[]⟩ : ByteArray).toList.isEmpty = true by rw [Lib.toList_data]; rfl)
      go_enter Tryd.func8, Tryd.ntmps8
      go_wp2_with (first | (go_at_call 11; refine (awake_next _ HG).mono ?_; rintro e w1 ⟨rfl, HB⟩) | (go_at_call_of 26 (Value.string (decT a false)); refine (back_enc HT HB a (by omega)).mono ?_; clear HB; rintro e w1 ⟨rfl, HB⟩) | (go_at_call_of 26 (Value.string a); refine (HK.out _ HB).mono ?_; clear HB; rintro e w1 ⟨rfl, HB⟩) | (go_at_call_of 24 (Value.string a); refine (dec_low HG HT HB a (by omega)).mono ?_; clear HB; rintro e w1 ⟨rfl, HB⟩) | (go_at_call 24; refine (dec_low HG HT HB ⟨#[]⟩ (by decide)).mono ?_; clear HB; rintro e w1 ⟨rfl, HB⟩))
      go_ret
      exact ⟨rfl, HB.out⟩
    | true =>
      have HK : Hid (∀ w1 : World, Hid (Below w.heap.size w w1) → Calls Tryd.prog 26 #[.string a] w1 fun e w' => e = .returned (.tuple #[.string (encT a), .bool true]) ∧ Hid (Below w.heap.size w w')) := Lib.hid (fun w1 HB => by
        have h := enc_next HT HB a (by omega)
        rw [hk] at h
        exact h)
      have HD : Hid (∀ w1 : World, Hid (Below w.heap.size w w1) → Calls Tryd.prog 24 #[.string (encT a), .bool false] w1 fun e w' => e = .returned (.tuple #[.string a, .int .i64 0]) ∧ Hid (Below w.heap.size w w')) := Lib.hid (fun w1 HB => by
        have h := dec_low HG HT HB (encT a) (by omega)
        rw [back_two a hk] at h
        exact h)
      go_enter Tryd.func8, Tryd.ntmps8
      go_wp2_with (first | (go_at_call 11; refine (awake_next _ HG).mono ?_; rintro e w1 ⟨rfl, HB⟩) | (go_at_call_of 26 (Value.string (decT a false)); refine (back_enc HT HB a (by omega)).mono ?_; clear HB; rintro e w1 ⟨rfl, HB⟩) | (go_at_call_of 26 (Value.string a); refine (HK.out _ HB).mono ?_; clear HB; rintro e w1 ⟨rfl, HB⟩) | (go_at_call_of 24 (Value.string a); refine (dec_low HG HT HB a (by omega)).mono ?_; clear HB; rintro e w1 ⟨rfl, HB⟩) | (go_at_call_of 24 (Value.string (encT a)); refine (HD.out _ HB).mono ?_; clear HB; rintro e w1 ⟨rfl, HB⟩))
      go_ret
      exact ⟨by simp, HB.out⟩
end Go.Proofs.YtcljfjkfjnifnaaDoor.NameReads
