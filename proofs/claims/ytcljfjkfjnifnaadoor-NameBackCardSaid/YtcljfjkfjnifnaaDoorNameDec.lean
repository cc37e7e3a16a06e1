/- The walks of package name's Decode and Encode. -/
import Derived.Test.YtcljfjkfjnifnaaDoorNameEnc
import Derived.Test.YtcljfjkfjnifnaaDoorBld
import Derived.Test.YtcljfjkfjnifnaaDoorNameOrd
set_option linter.unusedVariables false
set_option linter.unusedSimpArgs false
namespace Go.Proofs.YtcljfjkfjnifnaaDoor.NameDec
open Go.RowKit Go.Proofs.YtcljfjkfjnifnaaDoorW.PrintWords Go.Proofs.YtcljfjkfjnifnaaDoorW.PrintLast Go.Proofs.YtcljfjkfjnifnaaDoor.NameLaw Go.Proofs.YtcljfjkfjnifnaaDoor.NameCmp Go.Proofs.YtcljfjkfjnifnaaDoor.NameWalk Go.Proofs.YtcljfjkfjnifnaaDoor.NameRef Go.Proofs.YtcljfjkfjnifnaaDoor.NameTab Go.Proofs.YtcljfjkfjnifnaaDoor.NameCode Go.Proofs.YtcljfjkfjnifnaaDoor.NameEnc
open Go.Proofs.YtcljfjkfjnifnaaDoor.NameAny (IterAt setIter iter_set iter_below below_iter next_at next_done iter_new iter_below0)

/-- The table of CP437's upper half. -/
def TabG (w : World) : Prop := ∀ k : Nat, k < 128 → w.cell? ⟨0, k, none⟩ = some (.int .i32 (T k))
theorem TabG.below {w w1 : World} (h : TabG w) (hb : Below w.heap.size w w1) : TabG w1 := fun k hk => pw_cell_below hb (h k hk)
abbrev IsB (B b : Nat) (l : List UInt8) (w : World) : Prop := Lib.IsBuilderF 78 5 B b (Lib.byteCells l) w
theorem bytes_len (l : List UInt8) : (Lib.byteCells l).length = l.length := by unfold Lib.byteCells; simp
theorem byte_next {w wr : World} {b : Nat} {l : List UInt8} (HB : Hid (Below w.heap.size w wr)) (HI : Hid (IsB w.heap.size b l wr)) (hl : l.length ≤ 1000000) (c : UInt8) :
    Calls Tryd.prog 63 #[.pointer (some ⟨b, 0, none⟩), .int .u8 c.toNat] wr fun e w' => e = .returned .nilIface ∧ Hid (IsB w.heap.size b (l ++ [c]) w') ∧ Hid (Below w.heap.size w w') ∧ Hid (Lib.OthersKept 5 (some b) wr w') :=
  (Bld.writeByte w.heap.size b _ c.toNat wr HI.out (by rw [bytes_len]; omega) HB.out.size).mono fun _ _ h => ⟨h.1, Lib.hid (by
    have := h.2.1
    unfold IsB
    rw [show Lib.byteCells (l ++ [c]) = Lib.byteCells l ++ [.int .u8 c.toNat] by unfold Lib.byteCells; simp]
    exact .inr this), Lib.hid (HB.out.trans h.2.2.1), Lib.hid h.2.2.2⟩
theorem rune_next {w wr : World} {b : Nat} {l : List UInt8} (HB : Hid (Below w.heap.size w wr)) (HI : Hid (IsB w.heap.size b l wr)) (hl : l.length ≤ 1000000) (r : Int) (h0 : 0 ≤ r) (h1 : r ≤ 1000000) :
    Calls Tryd.prog 64 #[.pointer (some ⟨b, 0, none⟩), .int .i32 r] wr fun e w' => (∃ n : Int, e = .returned (.tuple #[.int .i64 n, .nilIface])) ∧ Hid (IsB w.heap.size b (l ++ Lib.encodeRune r) w') ∧ Hid (Below w.heap.size w w') :=
  (Bld.writeRune w.heap.size b _ r (by omega) (by omega) wr HI.out (by rw [bytes_len]; omega) HB.out.size).mono fun _ _ h => ⟨⟨_, h.1⟩, Lib.hid (by
    have := h.2.1
    unfold IsB
    rw [show Lib.byteCells (l ++ Lib.encodeRune r) = Lib.byteCells l ++ Lib.runeCells r by rw [← Lib.byteCells_encodeRune]; unfold Lib.byteCells; simp]
    exact .inr this), Lib.hid (HB.out.trans h.2.2.1)⟩
theorem str_next {w wr : World} {b : Nat} {l : List UInt8} (HB : Hid (Below w.heap.size w wr)) (HI : Hid (IsB w.heap.size b l wr)) :
    Calls Tryd.prog 65 #[.pointer (some ⟨b, 0, none⟩)] wr fun e w' => e = .returned (.string ⟨l.toArray⟩) ∧ Hid (Below w.heap.size w w') :=
  (Bld.string_any w.heap.size b l wr HI.out HB.out.size).mono fun _ _ h => ⟨h.1, Lib.hid (HB.out.trans h.2)⟩
theorem dec_take (s : List UInt8) (k : Nat) (h : k < s.length) : decB (s.take (k + 1)) = decB (s.take k) ++ sign s[k] := by
  unfold decB
  rw [List.take_add_one, List.getElem?_eq_getElem h, List.flatMap_append]
  simp
theorem dec_len (l : List UInt8) : (decB l).length ≤ 4 * l.length := by
  induction l with
  | nil => simp [decB]
  | cons b l ih =>
    have e : decB (b :: l) = sign b ++ decB l := by unfold decB; rw [List.flatMap_cons]
    rw [e, List.length_append, List.length_cons]
    have : (sign b).length ≤ 3 := by rw [← sign_nums, List.length_map]; exact signZ_len b
    omega
set_option maxHeartbeats 1000000 in
set_option maxRecDepth 100000 in
theorem decode_low (s : ByteArray) (hs : s.size ≤ 100000) (w : World) (ht : TabG w) :
    Calls Tryd.prog 24 #[.string s, .bool false] w fun e w' => e = .returned (.tuple #[.string ⟨(decB s.data.toList).toArray⟩, .int .i64 0]) ∧ Below w.heap.size w w' := by
  have HT := Lib.hid ht
  clear ht
  go_enter Tryd.func24, Tryd.ntmps24
  go_wp2
  have HB0 := Lib.hid (show Below w.heap.size w (w.alloc (.cells #[.pointer none, .slice none 0 0] 78)) from (Below.refl _ _).alloc (Nat.le_refl _) _)
  have HI0 := Lib.hid (show IsB w.heap.size w.heap.size [] (w.alloc (.cells #[.pointer none, .slice none 0 0] 78)) from Lib.IsBuilderF.of (Lib.fresh_isBuilder _ _ w))
  go_loopw [16] (fun i wr => ∃ k : Nat, k ≤ s.size ∧ i = .int .i64 k ∧ Hid (IsB w.heap.size w.heap.size (decB (s.data.toList.take k)) wr) ∧ Hid (Below w.heap.size w wr)) (fun i _ => s.size - (intOf i).toNat)
  case atStart => exact ⟨0, by omega, rfl, HI0, HB0⟩
  case round =>
    clear HB0 HI0
    obtain ⟨k, hk, rfl, HI, HB⟩ := hrel
    have HLn := Lib.hid (dec_len (s.data.toList.take k))
    have hln : (decB (s.data.toList.take k)).length ≤ 1000000 := by
      have := HLn.out
      rw [List.length_take, len_data] at this
      omega
    clear HLn
    by_cases hlt : k < s.size
    · have hltI : (k : Int) < s.size := by omega
      have hd := dec_take s.data.toList k (by rw [len_data]; exact hlt)
      obtain ⟨c, hc⟩ : ∃ c, s.data.toList[k]'(by rw [len_data]; exact hlt) = c := ⟨_, rfl⟩
      rw [hc] at hd
      have hc2 : s[k]'hlt = c := hc
      have hcl := c.toNat_lt
      have HD := Lib.hid hd
      clear hd hc
      generalize decB (s.data.toList.take k) = l at *
      by_cases h1 : c.toNat < 128
      · have q1 : decide ((c.toNat : Int) < 128) = true := decide_eq_true (by omega)
        have HS := Lib.hid (show sign c = [c] by unfold sign; rw [if_pos h1])
        go_wp2_with (go_at_call 63; refine (byte_next HB HI hln c).mono ?_; clear HB HI; rintro e w1 ⟨rfl, HI, HB, HK⟩)
        go_roundw
        case rel => exact ⟨k + 1, by omega, by go_num, Lib.hid (by rw [HD.out, HS.out]; exact HI.out), HB⟩
        case measure => simp [intOf]; omega
      · have q1 : decide ((c.toNat : Int) < 128) = false := decide_eq_false (by omega)
        have HS := Lib.hid (show sign c = Lib.encodeRune (T (c.toNat - 128) : Int) by unfold sign; rw [if_neg h1])
        have hcell := HT.out.below HB.out (c.toNat - 128) (by omega)
        have h2 := T_hi (c.toNat - 128) (by omega)
        have hsub : ((c.toNat : Int) - 128) = ((c.toNat - 128 : Nat) : Int) := by omega
        obtain ⟨m, hm⟩ : ∃ m, m = c.toNat - 128 := ⟨_, rfl⟩
        have hm128 : m < 128 := by omega
        rw [← hm] at HS hcell h2 hsub
        clear hm
        generalize T m = r at *
        go_wp2_with (go_at_call 64; refine (rune_next HB HI hln r (by omega) (by omega)).mono ?_; clear HB HI; rintro e w1 ⟨⟨n, rfl⟩, HI, HB⟩)
        go_roundw
        case rel => exact ⟨k + 1, by omega, by go_num, Lib.hid (by rw [HD.out, HS.out]; exact HI.out), HB⟩
        case measure => simp [intOf]; omega
    · have HE := Lib.hid (show s.data.toList.take k = s.data.toList from List.take_of_length_le (by rw [len_data]; omega))
      rw [HE.out] at HI
      go_wp2_with (go_at_call 65; refine (str_next HB HI).mono ?_; clear HB HI; rintro e w1 ⟨rfl, HB⟩)
      go_ret2
      exact ⟨rfl, HB.out⟩
theorem decode_any (s : ByteArray) (u : Bool) (hs : s.size ≤ 100000) (w : World) (hg : Glob w) (ht : TabG w) :
    Calls Tryd.prog 24 #[.string s, .bool u] w fun e w' => e = .returned (.tuple #[.string (decT s u), .int .i64 (decE s u)]) ∧ Below w.heap.size w w' := by
  cases u
  · exact decode_low s hs w ht
  · have HG := Lib.hid hg
    clear hg ht
    by_cases hv : validT s = true
    · have hT := Lib.hid (show decT s true = s by unfold decT; rw [if_pos rfl, if_pos hv])
      have hE := Lib.hid (show decE s true = 0 by unfold decE; rw [if_pos rfl, if_pos hv])
      go_enter Tryd.func24, Tryd.ntmps24
      go_wp2_with (go_at_call 52; refine (valid_any s _ (by omega) HG.out).mono ?_; rintro e w1 ⟨rfl, hb⟩; have HB := Lib.hid hb; clear hb)
      go_ret2
      exact ⟨by rw [hT.out, hE.out]; rfl, HB.out⟩
    · have hv' : validT s = false := by simpa using hv
      have hT := Lib.hid (show decT s true = ⟨#[]⟩ by unfold decT; rw [if_pos rfl, if_neg hv])
      have hE := Lib.hid (show decE s true = 20 by unfold decE; rw [if_pos rfl, if_neg hv])
      clear hv
      go_enter Tryd.func24, Tryd.ntmps24
      go_wp2_with (go_at_call 52; refine (valid_any s _ (by omega) HG.out).mono ?_; rintro e w1 ⟨rfl, hb⟩; have HB := Lib.hid hb; clear hb)
      go_ret2
      exact ⟨by rw [hT.out, hE.out]; rfl, HB.out⟩
/-! ### Encode -/
def idxI (n : Nat) : Int := match idx n with | some k => (k : Int) | none => -1
theorem add_g (g j : Nat) : (⟨g, 0, none⟩ : Addr).add j = ⟨g, j, none⟩ := add_plain g j
set_option maxHeartbeats 1000000 in
set_option maxRecDepth 100000 in
theorem index_any (n : Nat) (w : World) (ht : TabG w) : Calls Tryd.prog 68 #[.slice (some ⟨0, 0, none⟩) 128 128, .int .i32 (n : Int)] w fun e w' => e = .returned (.int .i64 (idxI n)) ∧ Drawn0 w w' := by
  have HT := Lib.hid ht
  clear ht
  go_enter Tryd.func68, Tryd.ntmps68
  go_wp2
  go_loopw [8] (fun i wr => ∃ k : Nat, k ≤ 128 ∧ i = .int .i64 k ∧ Hid (∀ j, j < k → T j ≠ n) ∧ Drawn0 w wr) (fun i _ => 128 - (intOf i).toNat)
  case atStart => exact ⟨0, by omega, rfl, Lib.hid (fun j hj => absurd hj (by omega)), Drawn0.refl _⟩
  case round =>
    obtain ⟨k, hk, rfl, HN, ⟨nd, rfl⟩⟩ := hrel
    by_cases hlt : k < 128
    · have hltI : (k : Int) < 128 := by omega
      have hc := HT.out k hlt
      by_cases hz : T k = n
      · have hq : ((n : Int) == (T k : Int)) = true := by rw [beq_iff_eq]; omega
        have HI := Lib.hid (show idxI n = (k : Int) by unfold idxI; rw [← hz, idx_T k hlt])
        clear hz
        generalize T k = tk at *
        go_wp2
        go_ret
        exact ⟨by rw [HI.out]; rfl, by repeat (first | exact Drawn0.refl _ | apply Drawn0.step)⟩
      · have hq : ((n : Int) == (T k : Int)) = false := by rw [beq_eq_false_iff_ne]; omega
        have HN2 := Lib.hid (show ∀ j, j < k + 1 → T j ≠ n from fun j hj => by
          by_cases e : j = k
          · rw [e]; exact hz
          · exact HN.out j (by omega))
        clear hz HN
        generalize T k = tk at *
        go_wp2
        go_roundw
        case rel => exact ⟨k + 1, by omega, by go_num, HN2, by repeat (first | exact Drawn0.refl _ | apply Drawn0.step)⟩
        case measure => simp [intOf]; omega
    · have HI := Lib.hid (show idxI n = -1 by
        unfold idxI
        cases hx : idx n with
        | none => rfl
        | some q =>
          obtain ⟨q1, q2⟩ := idx_some hx
          exact absurd q2 (HN.out q (by omega)))
      go_wp2
      go_ret
      exact ⟨by rw [HI.out]; rfl, by repeat (first | exact Drawn0.refl _ | apply Drawn0.step)⟩
theorem isB_iter {B b bi : Nat} {l : List UInt8} {W : World} {s : ByteArray} {p : Nat} (h : IsB B b l W) (hi : IterAt W bi s p) (hne : bi ≠ b) (q : Nat) : IsB B b l (setIter W bi s q) := by
  have key : ∀ pv, Lib.BuilderAtF 78 5 B b pv (Lib.byteCells l) W → Lib.BuilderAtF 78 5 B b pv (Lib.byteCells l) (setIter W bi s q) := by
    rintro pv ⟨hB, v, hb, hown, hnb⟩
    have hg : W.grownBy (setIter W bi s q) (some bi) := ⟨rfl, rfl, rfl, by show _ ≤ (W.heap.setIfInBounds bi _).size; rw [Array.size_setIfInBounds]; exact Nat.le_refl _, fun k _ hk => by
      show (W.heap.setIfInBounds bi _)[k]? = _
      rw [Array.getElem?_setIfInBounds_ne (fun e => hk (by rw [e]))]⟩
    refine ⟨hB, v, ?_, hown.kept hg ?_, hnb⟩
    · show (W.heap.setIfInBounds bi _)[b]? = _
      rw [Array.getElem?_setIfInBounds_ne hne]
      exact hb
    · right
      intro e
      rcases hown.2 with ⟨rfl, _⟩ | ⟨g, cap, cur, fz, rfl, _, hgg, _⟩
      · simp [Value.ownBlock] at e
      · simp [Value.ownBlock] at e
        subst e
        unfold IterAt at hi
        rw [hi] at hgg
        cases hgg
  exact h.elim (fun h => .inl (key _ h)) (fun h => .inr (key _ h))
theorem iter_kept {e : TypeId} {b bi : Nat} {W W' : World} {s : ByteArray} {p : Nat} (h : Lib.OthersKept e (some b) W W') (hi : IterAt W bi s p) (hne : bi ≠ b) : IterAt W' bi s p :=
  h bi _ hi (by simpa using hne) (fun c fz e => by cases e)
theorem drawn_isB {B b : Nat} {l : List UInt8} {W : World} (h : IsB B b l W) (n : Nat) : IsB B b l (W.drewN n) := h
theorem drawn_iter {bi : Nat} {W : World} {s : ByteArray} {p : Nat} (h : IterAt W bi s p) (n : Nat) : IterAt (W.drewN n) bi s p := h
theorem index_next {w wr : World} {b bi : Nat} {l : List UInt8} {s : ByteArray} {p : Nat} (HT : Hid (TabG w)) (HB : Hid (Below w.heap.size w wr)) (HI : Hid (IsB w.heap.size b l wr)) (HX : Hid (IterAt wr bi s p)) (n : Nat) :
    Calls Tryd.prog 68 #[.slice (some ⟨0, 0, none⟩) 128 128, .int .i32 (n : Int)] wr fun e w' => e = .returned (.int .i64 (idxI n)) ∧ Hid (Below w.heap.size w w') ∧ Hid (IsB w.heap.size b l w') ∧ Hid (IterAt w' bi s p) :=
  (index_any n wr (HT.out.below HB.out)).mono fun _ _ h => by
    obtain ⟨h1, nd, rfl⟩ := h
    exact ⟨h1, Lib.hid (pw_below_drewN HB.out nd), Lib.hid (drawn_isB HI.out nd), Lib.hid (drawn_iter HX.out nd)⟩
theorem byte_iter {w wr : World} {b bi : Nat} {l : List UInt8} {s : ByteArray} {p : Nat} (HB : Hid (Below w.heap.size w wr)) (HI : Hid (IsB w.heap.size b l wr)) (HX : Hid (IterAt wr bi s p)) (hne : Hid (bi ≠ b)) (hl : l.length ≤ 1000000) (c : UInt8) :
    Calls Tryd.prog 63 #[.pointer (some ⟨b, 0, none⟩), .int .u8 c.toNat] wr fun e w' => e = .returned .nilIface ∧ Hid (IsB w.heap.size b (l ++ [c]) w') ∧ Hid (Below w.heap.size w w') ∧ Hid (IterAt w' bi s p) :=
  (byte_next HB HI hl c).mono fun _ _ h => ⟨h.1, h.2.1, h.2.2.1, Lib.hid (iter_kept h.2.2.2.out HX.out hne.out)⟩
theorem told_acc (acc : List UInt8) (b : UInt8) (o : Option (List UInt8)) : (o.map (b :: ·)).map (acc ++ ·) = o.map ((acc ++ [b]) ++ ·) := by
  cases o <;> simp
theorem prefix_any (s p : ByteArray) (w : World) : Calls Tryd.prog 69 #[.string s, .string p] w fun e w' => e = .returned (.bool (Lib.hasPrefix s.data.toList p.data.toList)) ∧ w = w' :=
  (Tryd.strings_HasPrefix s p w).mono fun _ _ h => ⟨h.1, h.2.symm⟩
theorem iterPos_at {W : World} {bi : Nat} {s : ByteArray} {p : Nat} (h : IterAt W bi s p) : W.iterPos bi = p := by
  unfold IterAt at h
  unfold World.iterPos
  rw [h]
theorem isB_new {B b : Nat} {l : List UInt8} {W : World} (h : IsB B b l W) (o : Obj) : IsB B b l (W.alloc o) := by
  have key : ∀ pv, Lib.BuilderAtF 78 5 B b pv (Lib.byteCells l) W → Lib.BuilderAtF 78 5 B b pv (Lib.byteCells l) (W.alloc o) := by
    rintro pv ⟨hB, v, hb, hown, hnb⟩
    have hlt : b < W.heap.size := (Array.getElem?_eq_some_iff.1 hb).1
    exact ⟨hB, v, by rw [Lib.alloc_old W o b hlt]; exact hb, hown.alloc o, hnb⟩
  exact h.elim (fun h => .inl (key _ h)) (fun h => .inr (key _ h))
def outT : Option (List UInt8) → ByteArray
  | some c => ⟨c.toArray⟩
  | none => ⟨#[]⟩
theorem encT_out (s : ByteArray) : encT s = outT (encL s.data.toList) := by
  unfold encT outT
  cases encL s.data.toList <;> rfl
set_option maxHeartbeats 2000000 in
set_option maxRecDepth 100000 in
theorem encode_any (s : ByteArray) (hs : s.size ≤ 100000) (w : World) (ht : TabG w) :
    Calls Tryd.prog 26 #[.string s] w fun e w' => e = .returned (.tuple #[.string (encT s), .bool (encOk s)]) ∧ Below w.heap.size w w' := by
  have HT := Lib.hid ht
  clear ht
  obtain ⟨R, hR⟩ : ∃ R, R = encL s.data.toList := ⟨_, rfl⟩
  have HE := Lib.hid (show encT s = outT R ∧ encOk s = R.isSome by rw [hR]; exact ⟨encT_out s, rfl⟩)
  have HR0 := Lib.hid (show R = (encL (s.data.toList.drop 0)).map ([] ++ ·) by rw [hR, List.drop_zero]; simp)
  clear hR
  go_enter Tryd.func26, Tryd.ntmps26
  go_wp2
  have HB0 := Lib.hid (show Below w.heap.size w (w.alloc (.cells #[.pointer none, .slice none 0 0] 78)) from (Below.refl _ _).alloc (Nat.le_refl _) _)
  have HI0 := Lib.hid (show IsB w.heap.size w.heap.size [] (w.alloc (.cells #[.pointer none, .slice none 0 0] 78)) from Lib.IsBuilderF.of (Lib.fresh_isBuilder _ _ w))
  have HBi := Lib.hid (HB0.out.trans ((iter_below0 (w.alloc (.cells #[.pointer none, .slice none 0 0] 78)) s).mono HB0.out.size))
  have HX0 := Lib.hid (iter_new (w.alloc (.cells #[.pointer none, .slice none 0 0] 78)) s)
  have HI1 : Hid (IsB w.heap.size w.heap.size [] ((w.alloc (.cells #[.pointer none, .slice none 0 0] 78)).iter s 0)) := Lib.hid (isB_new HI0.out (.stringIter s 0))
  have hsz : (w.alloc (.cells #[.pointer none, .slice none 0 0] 78)).heap.size = w.heap.size + 1 := Array.size_push _
  rw [hsz] at HX0
  have HNe := Lib.hid (show w.heap.size + 1 ≠ w.heap.size by omega)
  have HLe := Lib.hid (show w.heap.size ≤ w.heap.size + 1 by omega)
  clear hsz HB0 HI0
  generalize (w.alloc (.cells #[.pointer none, .slice none 0 0] 78)).iter s 0 = w0 at *
  generalize w.heap.size + 1 = bi at *
  go_loopw [5] (fun _ wr => ∃ (i : Nat) (acc : List UInt8), i ≤ s.size ∧ acc.length ≤ i ∧ Hid (IterAt wr bi s i) ∧ Hid (IsB w.heap.size w.heap.size acc wr) ∧ Hid (Below w.heap.size w wr) ∧ Hid (R = (encL (s.data.toList.drop i)).map (acc ++ ·))) (fun _ wr => s.size - wr.iterPos bi)
  case atStart => exact ⟨0, [], by omega, by simp, HX0, HI1, HBi, HR0⟩
  case round =>
    clear HX0 HI1 HBi HR0
    obtain ⟨i, acc, his, hacc, HX, HI, HB, HR⟩ := hrel
    have hip : wr.iterPos bi = i := by
      have := HX.out
      unfold IterAt at this
      unfold World.iterPos
      rw [this]
    by_cases hi : i < s.size
    · have hnx := fun ty => next_at (P := Tryd.prog) wr bi s i ty hi HX.out
      have hne : s.data.toList.drop i ≠ [] := by
        intro e
        have := congrArg List.length e
        rw [List.length_drop, len_data, List.length_nil] at this
        omega
      have hst := enc_step _ hne
      rw [Lib.decodeL_drop, List.drop_drop] at hst
      have hw1 := Lib.decode_width_pos s i hi
      have hle := decode_le s i
      have hwid : i + (Utf8.decode s i).2 ≤ s.size := by
        have := Lib.decodeL_le _ hne
        rw [Lib.decodeL_drop, List.length_drop, len_data] at this
        omega
      have HST := Lib.hid hst
      clear hst hne
      obtain ⟨r, k, hrk⟩ : ∃ r k, Utf8.decode s i = (r, k) := ⟨_, _, rfl⟩
      rw [hrk] at hnx HST hw1 hle hwid
      clear hrk
      simp only at hnx HST hw1 hle hwid
      have HB1 := Lib.hid (below_iter s (i + k) HLe.out HB.out)
      have HI1 := Lib.hid (isB_iter HI.out HX.out HNe.out (i + k))
      have HX1 := Lib.hid (iter_set _ _ _ _ (i + k) HX.out)
      generalize setIter wr bi s (i + k) = w1 at *
      clear HB HI HX
      by_cases h1 : r < 128
      · have q1 : ((r : Int) == 65533) = false := beq_eq_false_iff_ne.2 (by omega)
        have q2 : decide ((r : Int) < 128) = true := decide_eq_true (by omega)
        have HTo := Lib.hid (show told r = some (UInt8.ofNat r) by unfold told; rw [if_pos h1])
        obtain ⟨c, hc⟩ : ∃ c, c = UInt8.ofNat r := ⟨_, rfl⟩
        have hcn : IntKind.u8.wrap (r : Int) = (c.toNat : Int) := by
          rw [hc]
          have : (UInt8.ofNat r).toNat = r := by simp; omega
          rw [this]
          unfold IntKind.wrap; simp [IntKind.bits, IntKind.signed]; omega
        rw [← hc] at HTo
        clear hc
        go_wp2_with (first | (go_at_call 68; refine (index_next HT HB1 HI1 HX1 r).mono ?_; clear HB1 HI1 HX1; rintro e w2 ⟨rfl, HB1, HI1, HX1⟩) | (go_at_call 63; refine (byte_iter HB1 HI1 HX1 HNe (by omega) c).mono ?_; clear HB1 HI1 HX1; rintro e w3 ⟨rfl, HI1, HB1, HX1⟩))
        go_roundw
        case rel => exact ⟨i + k, acc ++ [c], hwid, by rw [List.length_append, List.length_singleton]; omega, HX1, HI1, HB1, Lib.hid (by rw [HR.out, HST.out, HTo.out]; exact told_acc acc c _)⟩
        case measure =>
          have hp2 := iterPos_at HX1.out
          rw [hip, hp2]; omega
      · have q2 : decide ((r : Int) < 128) = false := decide_eq_false (by omega)
        cases hx : idx r with
        | none =>
          have HRn := Lib.hid (show R = none by
            rw [HR.out, HST.out]
            unfold told
            rw [if_neg h1, hx]; rfl)
          have HId := Lib.hid (show idxI r = -1 by unfold idxI; rw [hx])
          have HE1 := Lib.hid (show encT s = ⟨#[]⟩ by rw [HE.out.1, HRn.out]; rfl)
          have HE2 := Lib.hid (show encOk s = false by rw [HE.out.2, HRn.out]; rfl)
          clear hx
          by_cases h2 : r = 65533
          · have q1 : ((r : Int) == 65533) = true := beq_iff_eq.2 (by omega)
            have hiI : (i : Int) ≤ (s.size : Int) := by omega
            clear h2
            obtain ⟨pb, hpb⟩ : ∃ pb, pb = Lib.hasPrefix (s.extract i s.size).data.toList [239, 191, 189] := ⟨_, rfl⟩
            have HPf : Hid (∀ W : World, Calls Tryd.prog 69 #[.string (s.extract i s.size), .string ⟨#[239, 191, 189]⟩] W fun e w' => e = .returned (.bool pb) ∧ W = w') := Lib.hid (fun W => by rw [hpb]; exact prefix_any _ _ W)
            clear hpb
            cases pb with
            | false =>
              go_wp2_with (first | (go_at_call 68; refine (index_next HT HB1 HI1 HX1 r).mono ?_; rw [HId.out]; clear HB1 HI1 HX1; rintro e w2 ⟨rfl, HB1, HI1, HX1⟩) | (go_at_call 69; refine (HPf.out _).mono ?_; rintro e w3 ⟨rfl, rfl⟩))
              go_ret2
              exact ⟨by rw [HE1.out, HE2.out]; rfl, HB1.out⟩
            | true =>
              go_wp2_with (first | (go_at_call 68; refine (index_next HT HB1 HI1 HX1 r).mono ?_; rw [HId.out]; clear HB1 HI1 HX1; rintro e w2 ⟨rfl, HB1, HI1, HX1⟩) | (go_at_call 69; refine (HPf.out _).mono ?_; rintro e w3 ⟨rfl, rfl⟩))
              go_ret2
              exact ⟨by rw [HE1.out, HE2.out]; rfl, HB1.out⟩
          · have q1 : ((r : Int) == 65533) = false := beq_eq_false_iff_ne.2 (by omega)
            go_wp2_with (first | (go_at_call 68; refine (index_next HT HB1 HI1 HX1 r).mono ?_; rw [HId.out]; clear HB1 HI1 HX1; rintro e w2 ⟨rfl, HB1, HI1, HX1⟩))
            go_ret2
            exact ⟨by rw [HE1.out, HE2.out]; rfl, HB1.out⟩
        | some q =>
          obtain ⟨q3, q4⟩ := idx_some hx
          have h2 : r ≠ 65533 := by have := T_hi q q3; omega
          have q1 : ((r : Int) == 65533) = false := beq_eq_false_iff_ne.2 (by omega)
          have q5 : decide ((q : Int) < 0) = false := decide_eq_false (by omega)
          have HTo := Lib.hid (show told r = some (UInt8.ofNat (128 + q)) by unfold told; rw [if_neg h1, hx]; rfl)
          have HId := Lib.hid (show idxI r = (q : Int) by unfold idxI; rw [hx])
          obtain ⟨c, hc⟩ : ∃ c, c = UInt8.ofNat (128 + q) := ⟨_, rfl⟩
          have hcn : IntKind.u8.wrap (128 + (q : Int)) = (c.toNat : Int) := by
            rw [hc]
            have : (UInt8.ofNat (128 + q)).toNat = 128 + q := by simp; omega
            rw [this]
            unfold IntKind.wrap; simp [IntKind.bits, IntKind.signed]; omega
          rw [← hc] at HTo
          clear hc hx q4 h2
          go_wp2_with (first | (go_at_call 68; refine (index_next HT HB1 HI1 HX1 r).mono ?_; rw [HId.out]; clear HB1 HI1 HX1; rintro e w2 ⟨rfl, HB1, HI1, HX1⟩) | (go_at_call 63; refine (byte_iter HB1 HI1 HX1 HNe (by omega) c).mono ?_; clear HB1 HI1 HX1; rintro e w3 ⟨rfl, HI1, HB1, HX1⟩))
          go_roundw
          case rel => exact ⟨i + k, acc ++ [c], hwid, by rw [List.length_append, List.length_singleton]; omega, HX1, HI1, HB1, Lib.hid (by rw [HR.out, HST.out, HTo.out]; exact told_acc acc c _)⟩
          case measure =>
            have hp2 := iterPos_at HX1.out
            rw [hip, hp2]; omega
    · obtain rfl : i = s.size := by omega
      have hnx := fun ty => next_done (P := Tryd.prog) wr bi s s.size ty (by omega) HX.out
      have HRs := Lib.hid (show R = some acc by rw [HR.out, List.drop_of_length_le (by rw [len_data]; omega), enc_nil]; simp)
      have HE1 := Lib.hid (show encT s = ⟨acc.toArray⟩ by rw [HE.out.1, HRs.out]; rfl)
      have HE2 := Lib.hid (show encOk s = true by rw [HE.out.2, HRs.out]; rfl)
      go_wp2_with (go_at_call 65; refine (str_next HB HI).mono ?_; clear HB HI; rintro e w1 ⟨rfl, HB⟩)
      go_ret2
      exact ⟨by rw [HE1.out, HE2.out]; rfl, HB.out⟩
end Go.Proofs.YtcljfjkfjnifnaaDoor.NameDec
