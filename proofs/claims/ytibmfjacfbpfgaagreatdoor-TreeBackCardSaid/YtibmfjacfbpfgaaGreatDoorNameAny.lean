/- strings.ContainsAny at a 0 and a backslash: at any text at all. -/
import Derived.Test.YtibmfjacfbpfgaaGreatDoorNameOrd
import Derived.Laws.RangeAny
import Derived.Laws.Runes
import Derived.WalkMore
set_option linter.unusedVariables false
set_option linter.unusedSimpArgs false
namespace Go.Proofs.YtibmfjacfbpfgaaGreatDoor.NameAny
open Go.RowKit YtibmfjacfbpfgaaGreatDoorW.PrintWords YtibmfjacfbpfgaaGreatDoorW.PrintLast NameLaw NameCmp NameWalk NameOrd
def two : ByteArray := ⟨#[0, 92]⟩
/-- A stray's or a rune's bytes from 128 on: all of them are. -/
theorem get_lt (s : ByteArray) (i : Nat) (h : i < s.size) : s.get! i = s[i]'h := by
 simp [ByteArray.get!, getElem!_pos, h]; rfl
theorem high_all (s : ByteArray) (pos : Nat) (h : pos < s.size) (ha : 128 ≤ (s[pos]'h).toNat) :
  pos + (Utf8.decode s pos).2 ≤ s.size ∧ ∀ j, j < (Utf8.decode s pos).2 → 128 ≤ (s.get! (pos + j)).toNat := by
 have hn : ¬ (s[pos]'h).toNat < 128 := by omega
 have h0 : 128 ≤ (s.get! (pos + 0)).toNat := by rw [get_at s pos h]; exact ha
 simp only [Utf8.decode, get_at s pos h, hn, if_false]
 repeat' split
 all_goals (simp_all [Utf8.runeError])
 all_goals first | omega | (refine ⟨by omega, fun j hj => ?_⟩; match j, hj with
  | 0, _ => exact h0
  | 1, _ => omega
  | 2, _ => omega
  | 3, _ => omega)
set_option maxHeartbeats 1000000 in
set_option maxRecDepth 1000000 in
theorem rune_high (r : Int) (h0 : 128 ≤ r) (h1 : r ≤ 2147483647) (w : World) : Calls Tryz.prog 150 #[.string two, .int .i32 r] w fun e w' => e = .returned (.int .i64 (-1)) ∧ Below w.heap.size w w' := by
 have d1 : decide ((0 : Int) ≤ r) = true := decide_eq_true (by omega)
 have d2 : decide (r < (128 : Int)) = false := decide_eq_false (by omega)
 by_cases h2 : r = 65533
 ·
  have q : (r == 65533) = true := by rw [beq_iff_eq]; exact h2
  go_enter Tryz.func150, Tryz.ntmps150
  go_wp2
  go_loopg [5, 6] 2 (fun g _ _ wx => ∃ i : Nat, i + g = 2 ∧ wx = w.iter two i)
  case atStart => exact ⟨0, by omega, rfl⟩
  case round =>
   obtain ⟨i, hig, rfl⟩ := hrel
   cases gk with
   | zero =>
    obtain rfl : i = 2 := by omega
    have hnx := fun ty => run_next_end (P := Tryz.prog) w two 2 ty (by decide)
    go_wp2
    go_ret
    exact ⟨rfl, (Below.refl _ _).alloc (Nat.le_refl _) _⟩
   | succ g =>
    have hi : i < two.size := by show i < 2; omega
    have hx128 : (two[i]'hi).toNat < 128 := by
     match i, hi with
     | 0, _ => show UInt8.toNat 0 < 128; decide
     | 1, _ => show UInt8.toNat 92 < 128; decide
     | i + 2, h => exact absurd h (by show ¬ (i + 2 < 2); omega)
    have hnx := fun ty => run_next_ascii (P := Tryz.prog) w two i ty hi hx128
    have hne : ((((two[i]'hi).toNat : Int)) == 65533) = false := beq_eq_false_iff_ne.2 (by omega)
    generalize (two[i]'hi).toNat = x at *
    go_wp2
    go_roundg g
    case measure => omega
    case rel => exact ⟨i + 1, by omega, rfl⟩
 ·
  have q : (r == 65533) = false := by rw [beq_eq_false_iff_ne]; exact h2
  by_cases h3 : Lib.validRune r = true
  ·
   go_enter Tryz.func150, Tryz.ntmps150
   go_wp2_with (go_at_call 171; refine (Tryz.utf8_ValidRune r _).mono ?_; rintro e w' ⟨rfl, rfl⟩; rw [h3])
   obtain ⟨f1, f2, f3⟩ := encode_facts r (by rw [validRune_eq]; exact h3) h0
   obtain ⟨rs, hrs⟩ : ∃ rs, Utf8.encode r = rs := ⟨_, rfl⟩
   rw [hrs] at f1 f2 f3
   have F1 := Lib.hid f1
   have F2 := Lib.hid f2
   have F3 := Lib.hid f3
   clear f1 f2 f3
   obtain ⟨n, hn⟩ : ∃ n : Nat, rs.size = n + 2 := ⟨rs.size - 2, by have := F1.out; omega⟩
   have hn4 : n ≤ 2 := by have := F2.out; omega
   have hw : wrap64 ((rs.size : Int) - 1) = (n : Int) + 1 := by unfold wrap64; omega
   have HN := Lib.hid hn
   clear hn
   go_wp2
   go_step3
   go_wp2
   simp only [hw]
   go_loopw [9] (fun i wr => i = .int .i64 ((n : Int) + 1) ∧ wr = w') (fun _ _ => 0)
   case atStart => exact ⟨rfl, rfl⟩
   case round =>
    obtain ⟨rfl, rfl⟩ := hrel
    clear hw
    cases n with
    | zero =>
     have hn : rs.size = 2 := HN.out
     have h1s : (1 : Int) < (rs.size : Int) := by omega
     have h1n : 1 < rs.size := by omega
     obtain ⟨c, hc⟩ : ∃ c, rs[1]'h1n = c := ⟨_, rfl⟩
     have hb : 128 ≤ c.toNat := by
      have h := F3.out
      have e : rs.size - 1 = 1 := by omega
      have := h (by omega)
      simp only [e] at this
      rw [← hc]
      exact this
     have hne : (((two[1]'(by decide)).toNat : Int) != (c.toNat : Int)) = true := by
      show ((92 : Int) != (c.toNat : Int)) = true
      rw [bne_iff_ne]; omega
     have ht2 : (2 : Int) ≤ (two.size : Int) := by decide
     have hw2 : IntKind.i64.wrap 2 = 2 := by decide
     have hib : ∀ x, Lib.indexByte (two.extract 2 two.size).data.toList x = -1 := fun x => rfl
     clear hn
     go_wp2
     go_step3
     go_wp2
     go_quiet (fail)
     have HQ := Lib.hid (pw_below_drewN (Below.refl wr.heap.size wr) nq)
     generalize wr.drewN nq = wq at *
     go_wp2
     go_quiet ((go_at_call 170; exact Calls.quiet_of_same ((Tryz.strings_IndexByte _ _ _).mono fun _ _ h => ⟨h.1, h.2⟩)))
     have HQ2 := Lib.hid (pw_below_drewN HQ.out nq)
     rw [hib]
     go_wp2
     rw [Exit.noGoto_ret]
     go_wp2
     rw [Exit.noGoto_ret]
     go_wp2
     go_ret
     exact ⟨rfl, HQ2.out⟩
    | succ n =>
     go_wp2
     rw [Exit.noGoto_ret]
     go_wp2
     go_ret
     exact ⟨rfl, Below.refl _ _⟩
  ·
   have h3' : Lib.validRune r = false := by simpa using h3
   go_enter Tryz.func150, Tryz.ntmps150
   go_wp2_with (go_at_call 171; refine (Tryz.utf8_ValidRune r _).mono ?_; rintro e w' ⟨rfl, rfl⟩; rw [h3'])
   go_ret
   exact ⟨rfl, Below.refl _ _⟩
theorem no_high (s : ByteArray) (i : Nat) (hno : Lib.NoAny s.data.toList two.data.toList i) (h : i < s.size) (ha : 128 ≤ (s[i]'h).toNat) :
  Lib.NoAny s.data.toList two.data.toList (i + (Utf8.decode s i).2) := by
 obtain ⟨h1, h2⟩ := high_all s i h ha
 intro j b hj hb
 by_cases hji : j < i
 ·
  exact hno j b hji hb
 ·
  have hjs : j < s.size := by omega
  have h3 := h2 (j - i) (by omega)
  rw [show i + (j - i) = j by omega, get_lt s j hjs] at h3
  have e : b = s[j]'hjs := by
   have := Lib.data_getElem? s j hjs
   rw [hb] at this
   exact Option.some.inj this
  rw [← e] at h3
  have n0 : b ≠ 0 := fun e => by rw [e] at h3; exact absurd h3 (by decide)
  have n1 : b ≠ 92 := fun e => by rw [e] at h3; exact absurd h3 (by decide)
  show ([0, 92] : List UInt8).contains b = false
  simp [n0, n1]
theorem rune_low (x : Int) (h0 : 0 ≤ x) (h1 : x < 128) (w : World) : Calls Tryz.prog 150 #[.string two, .int .i32 x] w fun e w' => e = .returned (.int .i64 (Lib.indexByte two.data.toList x.toNat.toUInt8)) ∧ Below w.heap.size w w' :=
 (Tryz.strings_IndexRune_ascii two x w h0 h1).mono fun _ _ h => ⟨h.1, h.2 ▸ Below.refl _ _⟩
def setIter (W : World) (b : Nat) (s : ByteArray) (p : Nat) : World := { W with heap := W.heap.setIfInBounds b (.stringIter s p) }
def IterAt (W : World) (b : Nat) (s : ByteArray) (p : Nat) : Prop := W.heap[b]? = some (.stringIter s p)
theorem iter_new (W : World) (s : ByteArray) : IterAt (W.iter s 0) W.heap.size s 0 := World.iter_heap W s 0
theorem iter_below0 (w : World) (s : ByteArray) : Below w.heap.size w (w.iter s 0) := (Below.refl w.heap.size w).alloc (Nat.le_refl _) _
theorem iter_set (W : World) (b : Nat) (s : ByteArray) (p q : Nat) (h : IterAt W b s p) : IterAt (setIter W b s q) b s q := by
 have hb : b < W.heap.size := (Array.getElem?_eq_some_iff.1 h).1
 show (W.heap.setIfInBounds b _)[b]? = _
 rw [Array.getElem?_setIfInBounds_self_of_lt hb]
theorem iter_below {W W' : World} {b : Nat} {s : ByteArray} {p : Nat} (h : IterAt W b s p) (hb : Below W.heap.size W W') : IterAt W' b s p := by
 have hl : b < W.heap.size := (Array.getElem?_eq_some_iff.1 h).1
 show W'.heap[b]? = _
 rw [hb.block b hl]; exact h
theorem below_iter {w W : World} {b : Nat} (s : ByteArray) (q : Nat) (hB : w.heap.size ≤ b) (h : Below w.heap.size w W) : Below w.heap.size w (setIter W b s q) :=
 h.trans ⟨rfl, rfl, rfl, by show _ ≤ (W.heap.setIfInBounds b _).size; rw [Array.size_setIfInBounds]; exact Nat.le_refl _, fun k hk => by
  show (W.heap.setIfInBounds b _)[k]? = _
  rw [Array.getElem?_setIfInBounds_ne (by omega)]⟩
theorem next_at {P : Program} (W : World) (b : Nat) (s : ByteArray) (pos : Nat) (ty : TypeId) (h : pos < s.size) (hh : IterAt W b s pos) :
  (Instr.next (.pointer (some ⟨b, 0, none⟩)) true ty).run P W = .ok (.tuple #[.bool true, .int .i64 pos, .int .i32 (Utf8.decode s pos).1]) (setIter W b s (pos + (Utf8.decode s pos).2)) := by
 unfold IterAt at hh
 simp only [Instr.next, getObj, setObj, Sem.run_bind, Sem.run, hh, Result.andThen, h, if_true]
 simp [goInt, setIter]
theorem next_done {P : Program} (W : World) (b : Nat) (s : ByteArray) (pos : Nat) (ty : TypeId) (h : ¬ pos < s.size) (hh : IterAt W b s pos) :
  (Instr.next (.pointer (some ⟨b, 0, none⟩)) true ty).run P W = .ok (.tuple #[.bool false]) W := by
 unfold IterAt at hh
 simp [Instr.next, getObj, Sem.run, hh, h]
theorem shou_any (n : Int) (w : World) : Calls Tryz.prog 151 #[.int .i64 n] w fun e w' => e = .returned (.bool (decide (8 < n))) ∧ w' = w := Tryz.strings_shouldUseASCIISet n w
set_option maxHeartbeats 1000000 in
set_option maxRecDepth 1000000 in
theorem short_any (s : ByteArray) (h8 : s.size ≤ 8) (w : World) : Calls Tryz.prog 125 #[.string s, .string two] w fun e w' => e = .returned (.int .i64 (Lib.indexAny s.data.toList two.data.toList)) ∧ Below w.heap.size w w' := by
 have hemp : two.toList.isEmpty = false := by rw [Lib.toList_data]; rfl
 have hn1 : ((two.size : Int) == 1) = false := by decide
 have h8z : decide ((8 : Int) < (s.size : Int)) = false := decide_eq_false (by omega)
 go_enter Tryz.func125, Tryz.ntmps125
 go_wp2_with (go_at_call 151; refine (shou_any _ _).mono ?_; rintro e w' ⟨rfl, rfl⟩; rw [h8z])
 have HW := Lib.hid (iter_below0 w' s)
 have HI0 := Lib.hid (iter_new w' s)
 obtain ⟨b, hb⟩ : ∃ b, b = w'.heap.size := ⟨_, rfl⟩
 rw [← hb] at HI0 ⊢
 have HBs := Lib.hid (show w'.heap.size ≤ b by omega)
 clear hb
 generalize w'.iter s 0 = w0 at *
 go_loopg [9, 10] s.size (fun g _ _ wx => ∃ i : Nat, s.size - i = g ∧ i ≤ s.size ∧ Hid (IterAt wx b s i) ∧ Hid (Below w'.heap.size w' wx) ∧ Hid (Lib.NoAny s.data.toList two.data.toList i))
 case atStart => exact ⟨0, by omega, by omega, HI0, HW, Lib.hid (Lib.NoAny.zero _ _)⟩
 case round =>
  obtain ⟨i, hig, his, HI, HB, HN⟩ := hrel
  by_cases hi : i < s.size
  ·
   have hnx := fun ty => next_at (P := Tryz.prog) wr b s i ty hi HI.out
   by_cases hx : (s[i]'hi).toNat < 128
   ·
    rw [decode_ascii s i hi hx] at hnx
    obtain ⟨x, hxe⟩ : ∃ x, s[i]'hi = x := ⟨_, rfl⟩
    rw [hxe] at hx
    simp only [hxe] at hnx
    have HX := Lib.hid (show s.data.toList[i]? = some x by rw [← hxe]; exact Lib.data_getElem? s i hi)
    clear hxe
    have HB1 := Lib.hid (below_iter s (i + 1) HBs.out HB.out)
    have HI1 := Lib.hid (iter_set _ _ _ _ (i + 1) HI.out)
    have HZ := Lib.hid (Lib.contains_iff_indexByte two.data.toList x)
    have HR := Lib.hid (rune_low x.toNat (by omega) (by omega))
    generalize setIter wr b s (i + 1) = w1 at *
    rw [show ((x.toNat : Int)).toNat.toUInt8 = x by simp] at HR
    cases hin : two.data.toList.contains x
    ·
     have hq : decide ((0 : Int) ≤ Lib.indexByte two.data.toList x) = false := by rw [← HZ.out]; exact hin
     go_wp2_with (go_at_call 150; refine (HR.out _).mono ?_; rintro e w2 ⟨rfl, hb2⟩; have HB2 := Lib.hid (below_next HB1.out hb2); have HI2 := Lib.hid (iter_below HI1.out hb2); clear hb2)
     go_roundg (s.size - (i + 1))
     case measure => omega
     case rel => exact ⟨i + 1, rfl, by omega, HI2, HB2, Lib.hid (HN.out.succ HX.out hin)⟩
    ·
     have hq : decide ((0 : Int) ≤ Lib.indexByte two.data.toList x) = true := by rw [← HZ.out]; exact hin
     go_wp2_with (go_at_call 150; refine (HR.out _).mono ?_; rintro e w2 ⟨rfl, hb2⟩; have HB2 := Lib.hid (below_next HB1.out hb2); clear hb2)
     go_ret
     exact ⟨by rw [Lib.indexAny_hit HN.out HX.out hin]; rfl, HB2.out⟩
   ·
    have HD := decode_high s i hi (by omega)
    have HE := decode_le s i
    have HN1 := Lib.hid (no_high s i HN.out hi (by omega))
    have HF := (high_all s i hi (by omega)).1
    obtain ⟨r, k, hrk⟩ : ∃ r k, Utf8.decode s i = (r, k) := ⟨_, _, rfl⟩
    rw [hrk] at hnx HD HE HN1 HF
    clear hrk
    obtain ⟨hD1, hD2⟩ := HD
    have HR := Lib.hid (rune_high (r : Int) (by omega) (by omega))
    have HB1 := Lib.hid (below_iter s (i + k) HBs.out HB.out)
    have HI1 := Lib.hid (iter_set _ _ _ _ (i + k) HI.out)
    simp only at hnx
    generalize setIter wr b s (i + k) = w1 at *
    go_wp2_with (go_at_call 150; refine (HR.out _).mono ?_; rintro e w2 ⟨rfl, hb2⟩; have HB2 := Lib.hid (below_next HB1.out hb2); have HI2 := Lib.hid (iter_below HI1.out hb2); clear hb2)
    go_roundg (s.size - (i + k))
    case measure => omega
    case rel => exact ⟨i + k, rfl, by simpa using HF, HI2, HB2, HN1⟩
  ·
   obtain rfl : i = s.size := by omega
   have hnx := fun ty => next_done (P := Tryz.prog) wr b s s.size ty (by omega) HI.out
   go_wp2
   go_ret
   exact ⟨by rw [Lib.indexAny_none (by rw [← Lib.size_eq]; exact HN.out)]; rfl, HB.out⟩
theorem index_any (s : ByteArray) (hs : s.size < 4294967281) (w : World) : Calls Tryz.prog 125 #[.string s, .string two] w fun e w' => e = .returned (.int .i64 (Lib.indexAny s.data.toList two.data.toList)) ∧ Below w.heap.size w w' := by
 by_cases h : s.size ≤ 8
 ·
  exact short_any s h w
 ·
  have h116 : (Tryz.prog.info? (Tryz.lays153_ren.t 116)).map (fun i => (i.zero, i.size)) = some (some (.agg (Array.replicate 256 (.bool false))), 256) := by kernel_rfl
  refine (Any.strings_IndexAny_long Tryz.lays153 (zero_of_info h116).1 (zero_of_info h116).2 s two w (by decide) (by omega) hs (by decide) (by
   intro j b h
   have : b = 0 ∨ b = 92 := by
    match j, h with
    | 0, h => left; exact (Option.some.inj h).symm
    | 1, h => right; exact (Option.some.inj h).symm
    | j + 2, h => simp [two] at h
   rcases this with rfl | rfl <;> decide)).mono fun e w' ⟨h1, h2⟩ => ⟨h1, ?_⟩
  rw [h2]
  exact ((Below.refl _ _).alloc (Nat.le_refl _) _).alloc (by simp) _
set_option maxHeartbeats 400000 in
theorem any_all (s : ByteArray) (hs : s.size < 4294967281) : AnyAt s := by
 intro w hg
 have HI := Lib.hid (index_any s hs w)
 clear hg
 go_enter Tryz.func90, Tryz.ntmps90
 go_wp2_with (go_at_call 125; refine HI.out.mono ?_; rintro e w1 ⟨rfl, hb⟩; have HB := Lib.hid hb; clear hb)
 go_ret
 exact ⟨rfl, HB.out⟩
end Go.Proofs.YtibmfjacfbpfgaaGreatDoor.NameAny
