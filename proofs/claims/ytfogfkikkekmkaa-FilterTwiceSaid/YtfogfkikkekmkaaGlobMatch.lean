/- glob: is a text a pattern's? -/
import Derived.Test.YtfogfkikkekmkaaGlobTake
import Derived.Deep.RegionHeld3
set_option linter.unusedVariables false
set_option linter.unusedSimpArgs false
namespace Go.Proofs.Ytfogfkikkekmkaa.GlobMatch
open Go.RowKit Go.Proofs.YtfogfkikkekmkaaW.PrintWords Go.Proofs.YtfogfkikkekmkaaW.PrintLast Go.Proofs.YtfogfkikkekmkaaW.PrintMore Go.Proofs.Ytfogfkikkekmkaa.GlobScan Go.Proofs.Ytfogfkikkekmkaa.GlobRunes Go.Proofs.Ytfogfkikkekmkaa.GlobLaw Go.Proofs.Ytfogfkikkekmkaa.GlobTake

/-! ### plain -/
def z0 : Atom := (0, 0, false, [])
def kindAt (p : List Atom) (i : Nat) : Int := (p.getD i z0).1
def takesAt (p : List Atom) (i : Nat) (r : Int) : Bool := takesP (p.getD i z0) r
/-- Behind the text: are the atoms left all *? -/
def restAt : Nat → List Atom → Nat → Option Bool
  | 0, _, _ => none
  | k + 1, p, i => if i < p.length ∧ kindAt p i = 3 then restAt k p (i + 1) else some (decide (i = p.length))
/-- In the atoms, in the text; the last *, and where its runes end so far. -/
def matchGo : Nat → List Atom → List Int → Nat → Nat → Int → Nat → Option Bool
  | 0, _, _, _, _, _, _ => none
  | k + 1, p, t, i, j, star, fr =>
    if j < t.length then
      (if i < p.length ∧ kindAt p i = 3 then matchGo k p t (i + 1) j (i : Int) j
       else if i < p.length ∧ takesAt p i (t.getD j 0) = true then matchGo k p t (i + 1) (j + 1) star fr
       else if 0 ≤ star then matchGo k p t (star.toNat + 1) (fr + 1) star (fr + 1)
       else some false)
    else restAt (p.length + 1 - i) p i
theorem restAt_some : ∀ (k : Nat) (p : List Atom) (i : Nat), i ≤ p.length → p.length - i < k → ∃ r, restAt k p i = some r
  | 0, p, i, h, hk => by omega
  | k + 1, p, i, h, hk => by
    unfold restAt
    by_cases h1 : i < p.length ∧ kindAt p i = 3
    · rw [if_pos h1]
      exact restAt_some k p (i + 1) (by omega) (by omega)
    · rw [if_neg h1]
      exact ⟨_, rfl⟩
/-- What is left to go. -/
def left (p : List Atom) (t : List Int) (j : Nat) (star : Int) (fr : Nat) : Nat := ((p.length : Int) - star).toNat + (t.length - fr) * (t.length + 2) + (t.length - j)
theorem matchGo_some (k : Nat) : ∀ (p : List Atom) (t : List Int) (i j : Nat) (star : Int) (fr : Nat), i ≤ p.length → j ≤ t.length → -1 ≤ star → star < (i : Int) → fr ≤ j → left p t j star fr < k → ∃ r, matchGo k p t i j star fr = some r := by
  induction k with
  | zero => intro p t i j star fr _ _ _ _ _ h; omega
  | succ k ih =>
    intro p t i j star fr hi hj hs1 hs2 hf h
    unfold matchGo
    unfold left at h
    by_cases h0 : j < t.length
    · rw [if_pos h0]
      by_cases h1 : i < p.length ∧ kindAt p i = 3
      · rw [if_pos h1]
        refine ih p t (i + 1) j (i : Int) j (by omega) hj (by omega) (by omega) (Nat.le_refl _) ?_
        unfold left
        have hm : (t.length - j) * (t.length + 2) ≤ (t.length - fr) * (t.length + 2) := Nat.mul_le_mul_right _ (by omega)
        omega
      · rw [if_neg h1]
        by_cases h2 : i < p.length ∧ takesAt p i (t.getD j 0) = true
        · rw [if_pos h2]
          refine ih p t (i + 1) (j + 1) star fr (by omega) (by omega) hs1 (by omega) (by omega) ?_
          unfold left
          omega
        · rw [if_neg h2]
          by_cases h3 : 0 ≤ star
          · rw [if_pos h3]
            refine ih p t (star.toNat + 1) (fr + 1) star (fr + 1) (by omega) (by omega) hs1 (by omega) (Nat.le_refl _) ?_
            unfold left
            have hm : (t.length - fr) * (t.length + 2) = (t.length - (fr + 1)) * (t.length + 2) + (t.length + 2) := by
              rw [show t.length - fr = (t.length - (fr + 1)) + 1 by omega, Nat.add_mul, Nat.one_mul]
            omega
          · rw [if_neg h3]
            exact ⟨_, rfl⟩
    · rw [if_neg h0]
      exact restAt_some _ _ _ hi (by omega)
/-- Does a pattern match a text's runes? -/
def matchP (p : List Atom) (t : List Int) : Bool := (matchGo (left p t 0 (-1) 0 + 1) p t 0 0 (-1) 0).getD false
theorem matchP_go (p : List Atom) (t : List Int) : matchGo (left p t 0 (-1) 0 + 1) p t 0 0 (-1) 0 = some (matchP p t) := by
  obtain ⟨r, hr⟩ := matchGo_some (left p t 0 (-1) 0 + 1) p t 0 0 (-1) 0 (by omega) (by omega) (by omega) (by omega) (by omega) (by omega)
  unfold matchP
  rw [hr]; rfl
/-! ### the walk -/
/-- A pattern's atoms, read. -/
def AtomsAt (w : World) (A : Option Addr) (p : List Atom) : Prop :=
  p.length ≤ 4611686018427387904 ∧ (0 < p.length → ∃ ad, A = some ad ∧ ∀ j (h : j < p.length), ∃ R c, w.cell? (ad.add (j * 4)) = some (.int .i64 p[j].1) ∧ w.cell? (ad.add (j * 4 + 1)) = some (.int .i32 p[j].2.1) ∧
    w.cell? (ad.add (j * 4 + 2)) = some (.bool p[j].2.2.1) ∧ w.cell? (ad.add (j * 4 + 3)) = some (.slice R p[j].2.2.2.length c) ∧ RangesAt w R p[j].2.2.2)
theorem AtomsAt.below {w w1 : World} {A : Option Addr} {p : List Atom} (h : AtomsAt w A p) (hb : Below w.heap.size w w1) : AtomsAt w1 A p :=
  ⟨h.1, fun hn => by
    obtain ⟨ad, e, hc⟩ := h.2 hn
    refine ⟨ad, e, fun j hj => ?_⟩
    obtain ⟨R, c, h1, h2, h3, h4, h5⟩ := hc j hj
    exact ⟨R, c, pw_cell_below hb h1, pw_cell_below hb h2, pw_cell_below hb h3, pw_cell_below hb h4, h5.below hb⟩⟩
def IntsAt (w : World) (A : Option Addr) (l : List Int) : Prop := l.length ≤ 4611686018427387904 ∧ (0 < l.length → ∃ ad, A = some ad ∧ ∀ j (h : j < l.length), w.cell? (ad.add j) = some (.int .i32 l[j]))
theorem IntsAt.below {w w1 : World} {A : Option Addr} {p : List Int} (h : IntsAt w A p) (hb : Below w.heap.size w w1) : IntsAt w1 A p :=
  ⟨h.1, fun hn => by
    obtain ⟨ad, e, hc⟩ := h.2 hn
    exact ⟨ad, e, fun j hj => pw_cell_below hb (hc j hj)⟩⟩
theorem ints_of {w : World} {A : Option Addr} {l : List Int} (h : (Kd.int .i32).C w A l.length l) (hl : l.length ≤ 4611686018427387904) : IntsAt w A l :=
  ⟨hl, fun hn => by
    obtain ⟨ad, e, hc⟩ := h.2.2 hn
    refine ⟨ad, e, fun j hj => ?_⟩
    obtain ⟨cs, hl, hk, hcell⟩ := hc j _ (List.getElem?_eq_getElem hj)
    have hk' : cs = [Value.int .i32 l[j]] := hk
    subst hk'
    have := hcell 0 _ rfl
    simpa [Kd.int, Kd.scalar] using this⟩
theorem runes_next (s : ByteArray) (hs : s.size ≤ 1000000) (w : World) :
    Calls Try.prog 16 #[.string s] w fun e w' => ∃ A c, e = .returned (.slice A (runesL s.data.toList).length c) ∧ IntsAt w' A (runesL s.data.toList) ∧ Below w.heap.size w w' :=
  (runes_any s hs w).mono fun e w' h => by
    obtain ⟨v, rfl, hR, hb⟩ := h
    obtain ⟨A, c, rfl, _, hC⟩ := Kd.R_reads hR
    refine ⟨A, c, rfl, ints_of hC ?_, hb⟩
    have := runes_len s.data.toList
    rw [← Lib.size_eq] at this
    omega
theorem get_at {α : Type} (l : List α) (d : α) (i : Nat) (h : i < l.length) : l.getD i d = l[i] := by
  rw [List.getD_eq_getElem?_getD, List.getElem?_eq_getElem h]; rfl
set_option maxHeartbeats 2000000 in
theorem matches_any (p : List Atom) (A : Option Addr) (c : Nat) (s : ByteArray) (hs : s.size ≤ 1000000) (w : World) (hp : AtomsAt w A p) :
    Calls Try.prog 21 #[.agg #[.slice A p.length c], .string s] w fun e w' => e = .returned (.bool (matchP p (runesL s.data.toList))) ∧ Below w.heap.size w w' := by
  have HP := Lib.hid hp
  have hp1 := hp.1
  clear hp
  obtain ⟨R, hR⟩ : ∃ R, R = matchP p (runesL s.data.toList) := ⟨_, rfl⟩
  have HM0 := Lib.hid (show matchGo (left p (runesL s.data.toList) 0 (-1) 0 + 1) p (runesL s.data.toList) 0 0 (-1) 0 = some R by rw [hR]; exact matchP_go _ _)
  rw [← hR]
  clear hR
  go_enter Try.func21, Try.ntmps21
  go_wp2_with fail
  have HB0 := Lib.hid (show Below w.heap.size w (w.alloc (.cells #[.slice A p.length c] 48)) from (Below.refl _ _).alloc (Nat.le_refl _) _)
  have HC0 := Lib.hid (show (w.alloc (.cells #[.slice A p.length c] 48)).cell? ⟨w.heap.size, 0, none⟩ = some (.slice A p.length c) by rw [cell_of (heap_alloc_new w _)]; rfl)
  refine (runes_next s hs _).mono ?_
  rintro e w2 ⟨B, d, rfl, hi, hb⟩
  have HI := Lib.hid hi
  have HP2 := Lib.hid ((HP.out.below HB0.out).below hb)
  have HC2 := Lib.hid (pw_cell_below hb HC0.out)
  have HB2 := Lib.hid (below_next HB0.out hb)
  have ht1 := hi.1
  clear hi hb HP HB0 HC0
  have HM := Lib.hid HM0.out
  clear HM0
  generalize runesL s.data.toList = t at *
  generalize hbp : w.heap.size = bp at HC2 ⊢
  clear hbp
  obtain ⟨F, hF⟩ : ∃ F, F = left p t 0 (-1) 0 + 1 := ⟨_, rfl⟩
  rw [← hF] at HM
  clear hF
  go_wp2
  go_loopg [6, 7, 8, 9] F (fun g vi vj vs vf wr => ∃ (i j : Nat) (star : Int) (fr : Nat), vi = .int .i64 i ∧ vj = .int .i64 j ∧ vs = .int .i64 star ∧ vf = .int .i64 fr ∧ i ≤ p.length ∧ j ≤ t.length ∧ -1 ≤ star ∧ star < (i : Int) ∧ fr ≤ j ∧ Hid (matchGo g p t i j star fr = some R) ∧ Hid (Below w2.heap.size w2 wr))
  case atStart => exact ⟨0, 0, -1, 0, rfl, rfl, rfl, rfl, by omega, by omega, by omega, by omega, by omega, HM, Lib.hid (Below.refl _ _)⟩
  case round =>
    clear HM
    obtain ⟨i, j, star, fr, rfl, rfl, rfl, rfl, hi, hj, hs1, hs2, hf, HM, HB⟩ := hrel
    cases gk with
    | zero => exact absurd HM.out (by simp [matchGo])
    | succ g =>
      have hM := HM.out
      clear HM
      unfold matchGo at hM
      have hcb := pw_cell_below HB.out HC2.out
      by_cases h0 : j < t.length
      · rw [if_pos h0] at hM
        have h0I : (j : Int) < (t.length : Int) := by omega
        have q0 : decide ((j : Int) < (t.length : Int)) = true := decide_eq_true h0I
        by_cases h1 : i < p.length
        · have h1I : (i : Int) < (p.length : Int) := by omega
          have q1 : decide ((i : Int) < (p.length : Int)) = true := decide_eq_true h1I
          obtain ⟨ad, rfl, hat⟩ := (HP2.out.below HB.out).2 (by omega)
          obtain ⟨Rr, cr, a0, a1, a2, a3, a4⟩ := hat i h1
          clear hat
          have hkd : kindAt p i = p[i].1 := by unfold kindAt; rw [get_at p z0 i h1]
          have htk : takesAt p i (t.getD j 0) = takesP p[i] t[j] := by unfold takesAt; rw [get_at p z0 i h1, get_at t 0 j h0]
          rw [hkd, htk] at hM
          clear hkd htk
          generalize p[i] = a at *
          by_cases h2 : a.1 = 3
          · rw [if_pos ⟨h1, h2⟩] at hM
            have HM := Lib.hid hM
            have q2 : (a.1 == 3) = true := beq_iff_eq.2 h2
            clear hM a1 a2 a3 a4
            go_wp2
            go_roundg g
            case measure => omega
            case rel => exact ⟨i + 1, j, (i : Int), j, by go_num, rfl, rfl, rfl, by omega, hj, by omega, by omega, Nat.le_refl _, HM, HB⟩
          · rw [if_neg (fun e => h2 e.2)] at hM
            have q2 : (a.1 == 3) = false := beq_eq_false_iff_ne.2 h2
            obtain ⟨ed, rfl, hrt⟩ := (HI.out.below HB.out).2 (by omega)
            have hru := hrt j h0
            clear hrt
            generalize t[j] = ru at *
            have b1 : wr.cell? ⟨(ad.add (i * 4)).block, (ad.add (i * 4)).off + 1, none⟩ = some (.int .i32 a.2.1) := by rw [← Addr.add_add] at a1; exact a1
            have b2 : wr.cell? ⟨(ad.add (i * 4)).block, (ad.add (i * 4)).off + 2, none⟩ = some (.bool a.2.2.1) := by rw [← Addr.add_add] at a2; exact a2
            have b3 : wr.cell? ⟨(ad.add (i * 4)).block, (ad.add (i * 4)).off + 3, none⟩ = some (.slice Rr a.2.2.2.length cr) := by rw [← Addr.add_add] at a3; exact a3
            have HA4 := Lib.hid a4
            clear a1 a2 a3 a4
            obtain ⟨tk, htk⟩ : ∃ tk, tk = takesP a ru := ⟨_, rfl⟩
            rw [← htk] at hM
            have HC : Hid (∀ W, RangesAt W Rr a.2.2.2 → Calls Try.prog 25 #[.agg #[.int .i64 a.1, .int .i32 a.2.1, .bool a.2.2.1, .slice Rr a.2.2.2.length cr], .int .i32 ru] W fun e w' => e = .returned (.bool tk) ∧ Below W.heap.size W w') := Lib.hid (fun W hW => by rw [htk]; exact takes_any a.1 a.2.1 a.2.2.1 a.2.2.2 Rr cr ru W hW)
            clear htk
            cases tk with
            | true =>
              rw [if_pos ⟨h1, rfl⟩] at hM
              have HM := Lib.hid hM
              clear hM
              go_wp2
              go_region_held3 (fun w' => w'.cell? ⟨bp, 0, none⟩ = some (.slice (some ad) p.length c) ∧ w'.cell? (ad.add (i * 4)) = some (.int .i64 a.1) ∧ w'.cell? ⟨(ad.add (i * 4)).block, (ad.add (i * 4)).off + 1, none⟩ = some (.int .i32 a.2.1) ∧ w'.cell? ⟨(ad.add (i * 4)).block, (ad.add (i * 4)).off + 2, none⟩ = some (.bool a.2.2.1) ∧ w'.cell? ⟨(ad.add (i * 4)).block, (ad.add (i * 4)).off + 3, none⟩ = some (.slice Rr a.2.2.2.length cr) ∧ w'.cell? (ed.add j) = some (.int .i32 ru)) (go_keep) ((go_at_call 25; refine (HC.out _ ?_).mono ?_; exact HA4.out; rintro e w3 ⟨rfl, hb3'⟩; have hb3 : Below wr.heap.size wr w3 := ⟨hb3'.os, hb3'.tape, hb3'.output, hb3'.size, hb3'.block⟩; clear hb3'; have e0 := pw_cell_below hb3 hcb; have e1 := pw_cell_below hb3 a0; have e2 := pw_cell_below hb3 b1; have e3 := pw_cell_below hb3 b2; have e4 := pw_cell_below hb3 b3; have e5 := pw_cell_below hb3 hru; have HB3 := Lib.hid (below_next HB.out hb3); clear hb3))
              go_wp2
              go_roundg g
              case measure => omega
              case rel => exact ⟨i + 1, j + 1, star, fr, by go_num, by go_num, rfl, rfl, by omega, by omega, hs1, by omega, by omega, HM, HB3⟩
            | false =>
              rw [if_neg (fun e => by cases e.2)] at hM
              by_cases h3 : 0 ≤ star
              · rw [if_pos h3] at hM
                have HM := Lib.hid hM
                have q3 : decide ((0 : Int) ≤ star) = true := decide_eq_true h3
                clear hM
                go_wp2
                go_region_held3 (fun w' => w'.cell? ⟨bp, 0, none⟩ = some (.slice (some ad) p.length c) ∧ w'.cell? (ad.add (i * 4)) = some (.int .i64 a.1) ∧ w'.cell? ⟨(ad.add (i * 4)).block, (ad.add (i * 4)).off + 1, none⟩ = some (.int .i32 a.2.1) ∧ w'.cell? ⟨(ad.add (i * 4)).block, (ad.add (i * 4)).off + 2, none⟩ = some (.bool a.2.2.1) ∧ w'.cell? ⟨(ad.add (i * 4)).block, (ad.add (i * 4)).off + 3, none⟩ = some (.slice Rr a.2.2.2.length cr) ∧ w'.cell? (ed.add j) = some (.int .i32 ru)) (go_keep) ((go_at_call 25; refine (HC.out _ ?_).mono ?_; exact HA4.out; rintro e w3 ⟨rfl, hb3'⟩; have hb3 : Below wr.heap.size wr w3 := ⟨hb3'.os, hb3'.tape, hb3'.output, hb3'.size, hb3'.block⟩; clear hb3'; have e0 := pw_cell_below hb3 hcb; have e1 := pw_cell_below hb3 a0; have e2 := pw_cell_below hb3 b1; have e3 := pw_cell_below hb3 b2; have e4 := pw_cell_below hb3 b3; have e5 := pw_cell_below hb3 hru; have HB3 := Lib.hid (below_next HB.out hb3); clear hb3))
                go_wp2
                go_roundg g
                case measure => omega
                case rel => exact ⟨star.toNat + 1, fr + 1, star, fr + 1, by go_num, by go_num, rfl, by go_num, by omega, by omega, hs1, by omega, Nat.le_refl _, HM, HB3⟩
              · rw [if_neg h3] at hM
                have HM := Lib.hid (Option.some.inj hM)
                have q3 : decide ((0 : Int) ≤ star) = false := decide_eq_false h3
                clear hM
                go_wp2
                go_region_held3 (fun w' => w'.cell? ⟨bp, 0, none⟩ = some (.slice (some ad) p.length c) ∧ w'.cell? (ad.add (i * 4)) = some (.int .i64 a.1) ∧ w'.cell? ⟨(ad.add (i * 4)).block, (ad.add (i * 4)).off + 1, none⟩ = some (.int .i32 a.2.1) ∧ w'.cell? ⟨(ad.add (i * 4)).block, (ad.add (i * 4)).off + 2, none⟩ = some (.bool a.2.2.1) ∧ w'.cell? ⟨(ad.add (i * 4)).block, (ad.add (i * 4)).off + 3, none⟩ = some (.slice Rr a.2.2.2.length cr) ∧ w'.cell? (ed.add j) = some (.int .i32 ru)) (go_keep) ((go_at_call 25; refine (HC.out _ ?_).mono ?_; exact HA4.out; rintro e w3 ⟨rfl, hb3'⟩; have hb3 : Below wr.heap.size wr w3 := ⟨hb3'.os, hb3'.tape, hb3'.output, hb3'.size, hb3'.block⟩; clear hb3'; have e0 := pw_cell_below hb3 hcb; have e1 := pw_cell_below hb3 a0; have e2 := pw_cell_below hb3 b1; have e3 := pw_cell_below hb3 b2; have e4 := pw_cell_below hb3 b3; have e5 := pw_cell_below hb3 hru; have HB3 := Lib.hid (below_next HB.out hb3); clear hb3))
                go_wp2
                go_ret
                exact ⟨by rw [← HM.out]; rfl, HB2.out.trans (HB3.out.mono HB2.out.size)⟩
        · rw [if_neg (fun e => h1 e.1), if_neg (fun e => h1 e.1)] at hM
          have q1 : decide ((i : Int) < (p.length : Int)) = false := decide_eq_false (by omega)
          by_cases h3 : 0 ≤ star
          · rw [if_pos h3] at hM
            have HM := Lib.hid hM
            have q3 : decide ((0 : Int) ≤ star) = true := decide_eq_true h3
            clear hM
            go_wp2
            go_quiet (fail)
            have HB := Lib.hid (pw_below_drewN HB.out nq)
            go_wp2
            go_roundg g
            case measure => omega
            case rel => exact ⟨star.toNat + 1, fr + 1, star, fr + 1, by go_num, by go_num, rfl, by go_num, by omega, by omega, hs1, by omega, Nat.le_refl _, HM, HB⟩
          · rw [if_neg h3] at hM
            have HM := Lib.hid (Option.some.inj hM)
            have q3 : decide ((0 : Int) ≤ star) = false := decide_eq_false h3
            clear hM
            go_wp2
            go_quiet (fail)
            have HB := Lib.hid (pw_below_drewN HB.out nq)
            go_wp2
            go_ret
            exact ⟨by rw [← HM.out]; rfl, HB2.out.trans (HB.out.mono HB2.out.size)⟩
      · rw [if_neg h0] at hM
        have q0 : decide ((j : Int) < (t.length : Int)) = false := decide_eq_false (by omega)
        have HR := Lib.hid hM
        clear hM
        obtain ⟨F2, hF2⟩ : ∃ F2, F2 = p.length + 1 - i := ⟨_, rfl⟩
        rw [← hF2] at HR
        clear hF2
        go_wp2
        go_loopg [6] F2 (fun g vi wx => ∃ i : Nat, vi = .int .i64 i ∧ i ≤ p.length ∧ Hid (restAt g p i = some R) ∧ Hid (Below w2.heap.size w2 wx))
        case atStart => exact ⟨i, rfl, hi, HR, HB⟩
        case round =>
          clear HR HB
          obtain ⟨i, rfl, hi2, HR, HB⟩ := hrel
          cases gk with
          | zero => exact absurd HR.out (by simp [restAt])
          | succ g =>
            have hM := HR.out
            clear HR
            unfold restAt at hM
            have hcb := pw_cell_below HB.out HC2.out
            by_cases h1 : i < p.length
            · have h1I : (i : Int) < (p.length : Int) := by omega
              have q1 : decide ((i : Int) < (p.length : Int)) = true := decide_eq_true h1I
              obtain ⟨ad, rfl, hat⟩ := (HP2.out.below HB.out).2 (by omega)
              obtain ⟨Rr, cr, a0, a1, a2, a3, a4⟩ := hat i h1
              clear hat a1 a2 a3 a4
              have hkd : kindAt p i = p[i].1 := by unfold kindAt; rw [get_at p z0 i h1]
              rw [hkd] at hM
              clear hkd
              generalize p[i] = a at *
              by_cases h2 : a.1 = 3
              · rw [if_pos ⟨h1, h2⟩] at hM
                have HM := Lib.hid hM
                have q2 : (a.1 == 3) = true := beq_iff_eq.2 h2
                clear hM
                go_wp2
                go_roundg g
                case measure => omega
                case rel => exact ⟨i + 1, by go_num, by omega, HM, HB⟩
              · rw [if_neg (fun e => h2 e.2)] at hM
                have HM := Lib.hid (show R = false by rw [← Option.some.inj hM]; exact decide_eq_false (by omega))
                have q2 : (a.1 == 3) = false := beq_eq_false_iff_ne.2 h2
                have q3 : ((i : Int) == (p.length : Int)) = false := beq_eq_false_iff_ne.2 (by omega)
                clear hM
                go_wp2
                go_ret
                exact ⟨by rw [HM.out]; simp, HB2.out.trans (HB.out.mono HB2.out.size)⟩
            · rw [if_neg (fun e => h1 e.1)] at hM
              have HM := Lib.hid (show R = true by rw [← Option.some.inj hM]; exact decide_eq_true (by omega))
              have q1 : decide ((i : Int) < (p.length : Int)) = false := decide_eq_false (by omega)
              have q3 : ((i : Int) == (p.length : Int)) = true := beq_iff_eq.2 (by omega)
              clear hM
              go_wp2
              go_ret
              exact ⟨by rw [HM.out]; simp, HB2.out.trans (HB.out.mono HB2.out.size)⟩
end Go.Proofs.Ytfogfkikkekmkaa.GlobMatch
