/- the document's Right. -/
import Derived.Test.YtibmfjacfbpfgaaGreatDoorTreeRef
set_option linter.unusedVariables false
set_option linter.unusedSimpArgs false
namespace Go.Proofs.YtibmfjacfbpfgaaGreatDoor.TreeRight
open Go.RowKit YtibmfjacfbpfgaaGreatDoorW PrintWords PrintLast PrintMore YtibmfjacfbpfgaaGreatDoor.Item Own TreeLaw NameLaw NameWalk NameOrd NameRef NameUse SortSwap SortIns TreeFn TreeDel NodeRes TreeRef
noncomputable def rightB (t : List It) : Bool := @decide (RightP t) (Classical.propDecidable _)
theorem rightB_no {t : List It} {k : Nat} {x : It} (h : t[k]? = some x) (hf : stepOk t k x = false) : rightB t = false := by
 unfold rightB;refine @decide_eq_false _ (Classical.propDecidable _) (fun hr => ?_);rw [hr k x h] at hf;cases hf
def SoFar (t : List It) (k : Nat) : Prop := ∀ j x, j < k → t[j]? = some x → stepOk t j x = true
theorem soFar_end {t : List It} {k : Nat} (h : SoFar t k) (hk : t.length ≤ k) : rightB t = true := by
 unfold rightB;refine @decide_eq_true _ (Classical.propDecidable _) (fun j x hj => h j x ?_ hj);have := (List.getElem?_eq_some_iff.1 hj).1;omega
theorem soFar_next {t : List It} {k : Nat} {x : It} (h : SoFar t k) (hx : t[k]? = some x) (hs : stepOk t k x = true) : SoFar t (k + 1) := by
 intro j y hj hy
 by_cases e : j = k
 ·
  subst e;rw [hx] at hy;injection hy with hy
  rw [← hy]; exact hs
 exact h j y (by omega) hy
theorem tl_eq (p q : ByteArray) (h : p = q) : (p.toList == q.toList) = true := by rw [toList_inj]; exact decide_eq_true h
theorem tl_ne (p q : ByteArray) (h : ¬ p = q) : (p.toList == q.toList) = false := by rw [toList_inj]; exact decide_eq_false h
def stepV (k : Nat) (p : ByteArray) (d : Bool) (ee : Int) (x0 : ByteArray) (x1 : Int) (o : Int) (kk : Int) : Bool := ((decide (ee = 0) && !d && decide (p = x0)) && (decide (1 ≤ x1) && decide (x1 ≤ 3)) && (decide (k = 0) || decide (o < 0))) && decide (kk = 1)
set_option maxHeartbeats 8000000 in
set_option maxRecDepth 100000 in
theorem rright_any (l : List It) (A : Option Addr) (c : Nat) (W : World) (hl : ItemC W A l) (hn : l.length ≤ 1000000) (hsz : ∀ x ∈ l, x.1.size ≤ 10000) :
  Calls Tryz.prog 30 #[.slice A l.length c] W fun e w' => e = .returned (.bool (rightB l)) ∧ Below W.heap.size W w' := by
 have HL := Hi hl;have HZ := Hi hsz;have l1 := hl.2.1;clear hl hsz;have HS0 : Hid (SoFar l 0) := Hi (fun j x hj => absurd hj (Nat.not_lt_zero _));go_enter Tryz.func30, Tryz.ntmps30;go_wp2
 go_loopw [10] (fun v wr => ∃ k : Nat, k ≤ l.length ∧ v = .int .i64 k ∧ Hid (SoFar l k) ∧ Hid (Below W.heap.size W wr)) (fun v _ => l.length - (intOf v).toNat)
 case atStart => exact ⟨0, by omega, rfl, HS0, Hi (Below.refl _ _)⟩
 clear HS0;obtain ⟨k, hk, rfl, HS, HB⟩ := hrel
 by_cases hlt : k < l.length
 ·
  obtain ⟨ad, rfl, e0, e1, e2, e3, e4, e5, e6, e7⟩ := item_at (Kd.C_below HL.out HB.out) hlt;have hltI : (k : Int) < l.length := by omega
  have hx : l[k]? = some l[k] := List.getElem?_eq_getElem hlt;have hm := HZ.out _ (List.getElem_mem hlt);generalize l[k] = x at *;obtain ⟨x0, x1, x2, x3, x4, x5, x6, x7⟩ := x;have HX := Hi hx;have HSX : Hid (x0.size ≤ 10000) := Hi hm;clear hx hm;simp only at e0 e1 e2 e3 e4 e5 e6 e7;obtain ⟨c0, c1, c2, c3, c4, c5, c6, c7⟩ := Own.cs8 (heap_new wr _);have hb2 := below_one wr (.cells #[.string x0, .int .i64 x1, .int .u32 x2, .int .u32 x3, .int .u32 x4, .int .i64 x5, .int .i64 x6, .string x7] 77);have HB2 := Hi (below_next_ HB.out hb2);clear hb2;have HV : Hid (stepOk l k (x0, x1, x2, x3, x4, x5, x6, x7) = stepV k (checkP x0) (checkD x0) (checkE x0) x0 x1 (orderT (l.getD (k - 1) (x0, x1, x2, x3, x4, x5, x6, x7)).1 x0) (kindOf l (parentT x0))) := Hi rfl;have HC := Hi (rcheck_next (w := (wr.alloc (.cells #[.string x0, .int .i64 x1, .int .u32 x2, .int .u32 x3, .int .u32 x4, .int .i64 x5, .int .i64 x6, .string x7] 77))) (Hi (Below.refl _ _)) x0 (by have := HSX.out; omega))
  go_wp2_with fail
  generalize hw2 : wr.alloc (.cells #[.string x0, .int .i64 x1, .int .u32 x2, .int .u32 x3, .int .u32 x4, .int .i64 x5, .int .i64 x6, .string x7] 77) = w2 at *;generalize hbx : wr.heap.size = bx at *;refine HC.out.mono ?_;rintro e w3 ⟨rfl, hb3⟩;have c0 := pw_cell_below hb3.out c0;have c1 := pw_cell_below hb3.out c1;have c2 := pw_cell_below hb3.out c2;have c3 := pw_cell_below hb3.out c3;have c4 := pw_cell_below hb3.out c4;have c5 := pw_cell_below hb3.out c5;have c6 := pw_cell_below hb3.out c6;have c7 := pw_cell_below hb3.out c7;have HB3 : Hid (Below W.heap.size W w3) := Hi (below_next_ HB2.out hb3.out);clear hb3 HC hw2 e0 e1 e2 e3 e4 e5 e6 e7;generalize checkP x0 = p at *;generalize checkD x0 = d at *;generalize checkE x0 = ee at *
  by_cases g1 : ee = 0
  case neg =>
   have q1 : (ee == 0) = false := by simpa using g1
   have HR : Hid (rightB l = false) := Hi (rightB_no HX.out (by rw [HV.out]; unfold stepV; rw [decide_eq_false g1]; rfl));clear HV HS HX;go_wp2;go_ret;exact ⟨by rw [HR.out]; rfl, HB3.out⟩
  subst g1;cases d
  case true =>
   have HR : Hid (rightB l = false) := Hi (rightB_no HX.out (by rw [HV.out]; unfold stepV; simp));clear HV HS HX;go_wp2;go_ret;exact ⟨by rw [HR.out]; rfl, HB3.out⟩
  by_cases g2 : p = x0
  case neg =>
   have q2 := tl_ne _ _ g2;have HR : Hid (rightB l = false) := Hi (rightB_no HX.out (by rw [HV.out]; unfold stepV; rw [decide_eq_false g2]; simp));clear HV HS HX g2;go_wp2;go_ret;exact ⟨by rw [HR.out]; rfl, HB3.out⟩
  have q2 := tl_eq _ _ g2
  by_cases g3 : x1 < 1
  ·
   have HR : Hid (rightB l = false) := Hi (rightB_no HX.out (by rw [HV.out]; unfold stepV; rw [decide_eq_false (show ¬ 1 ≤ x1 by omega)]; simp));clear HV HS HX g2;go_wp2;go_ret;exact ⟨by rw [HR.out]; rfl, HB3.out⟩
  by_cases g4 : 3 < x1
  ·
   have HR : Hid (rightB l = false) := Hi (rightB_no HX.out (by rw [HV.out]; unfold stepV; rw [decide_eq_false (show ¬ x1 ≤ 3 by omega)]; simp));clear HV HS HX g2;go_wp2;go_ret;exact ⟨by rw [HR.out]; rfl, HB3.out⟩
  have HV2 : Hid (∀ o, orderT (l.getD (k - 1) (x0, x1, x2, x3, x4, x5, x6, x7)).1 x0 = o → stepOk l k (x0, x1, x2, x3, x4, x5, x6, x7) = ((decide (k = 0) || decide (o < 0)) && decide (kindOf l (parentT x0) = 1))) := Hi (fun o ho => by
   rw [HV.out, ho]; unfold stepV; rw [decide_eq_true g2, decide_eq_true (show 1 ≤ x1 by omega), decide_eq_true (show x1 ≤ 3 by omega)]; rfl)
  clear HV g2
  by_cases hk0 : k = 0
  ·
   have q0 : decide (0 < k) = false := decide_eq_false (by omega);have HV3 : Hid (stepOk l k (x0, x1, x2, x3, x4, x5, x6, x7) = decide (kindOf l (parentT x0) = 1)) := Hi (by rw [HV2.out _ rfl, decide_eq_true hk0]; rfl);clear HV2 hk0
   go_wp2_with fail
   refine start_ (n := 14) (S := fun w' => True) (ds := []) (bm 14 0) (by kernel_rfl) rfl rfl trivial (fun hHeld => ?_);have HB5 : Hid (Below w3.heap.size w3 w3.drew) := Hi (below_drew (Below.refl _ _));generalize w3.drew = w5 at *;refine pure_ (i := 0) (N := some 45) (v := ?_) (a' := ?_) (bm 14 1) rfl rfl (by kernel_rfl) (fun _ _ _ h => h) (Or.inl ⟨by rfl, ?_⟩) ?_ ?_;rotate_left;intro w';go_simp;(with_reducible rfl);rotate_left;simp only [Act.put, nA, nZ, nS, i64_w, i32_w];rfl;refine pure_ (i := 1) (N := some 46) (v := ?_) (a' := ?_) (bm 14 3) rfl rfl (by kernel_rfl) (fun _ _ _ h => h) (Or.inl ⟨by rfl, ?_⟩) ?_ ?_;rotate_left;intro w';go_simp;(with_reducible rfl);rotate_left;simp only [Act.put, nA, nZ, nS, i64_w, i32_w];rfl;refine pure_ (i := 2) (N := some 47) (v := ?_) (a' := ?_) (bm 14 7) rfl rfl (by kernel_rfl) (fun _ _ _ h => h) (Or.inl ⟨by rfl, ?_⟩) ?_ ?_;rotate_left;intro w';go_simp;(with_reducible rfl);rotate_left;simp only [Act.put, nA, nZ, nS, i64_w, i32_w];rfl;refine pure_ (i := 3) (N := some 48) (v := undef) (a' := ?_) (bm 14 15) rfl rfl (by kernel_rfl) (fun _ _ _ h => h) (Or.inr ⟨by rfl, rfl⟩) ?_ ?_;rotate_left
   ·
    simp only [Act.put, nA, nZ, nS, i64_w, i32_w];rfl
   refine pure_ (i := 4) (N := some 49) (v := undef) (a' := ?_) (bm 14 31) rfl rfl (by kernel_rfl) (fun _ _ _ h => h) (Or.inr ⟨by rfl, rfl⟩) ?_ ?_;rotate_left
   ·
    simp only [Act.put, nA, nZ, nS, i64_w, i32_w];rfl
   refine pure_ (i := 5) (N := some 50) (v := undef) (a' := ?_) (bm 14 63) rfl rfl (by kernel_rfl) (fun _ _ _ h => h) (Or.inr ⟨by rfl, rfl⟩) ?_ ?_;rotate_left
   ·
    simp only [Act.put, nA, nZ, nS, i64_w, i32_w];rfl
   refine pure_ (i := 6) (N := some 51) (v := undef) (a' := ?_) (bm 14 127) rfl rfl (by kernel_rfl) (fun _ _ _ h => h) (Or.inr ⟨by rfl, rfl⟩) ?_ ?_;rotate_left
   ·
    simp only [Act.put, nA, nZ, nS, i64_w, i32_w];rfl
   refine pure_ (i := 7) (N := some 52) (v := undef) (a' := ?_) (bm 14 255) rfl rfl (by kernel_rfl) (fun _ _ _ h => h) (Or.inr ⟨by rfl, rfl⟩) ?_ ?_;rotate_left
   ·
    simp only [Act.put, nA, nZ, nS, i64_w, i32_w];rfl
   refine pure_ (i := 8) (N := some 53) (v := undef) (a' := ?_) (bm 14 511) rfl rfl (by kernel_rfl) (fun _ _ _ h => h) (Or.inr ⟨by rfl, rfl⟩) ?_ ?_;rotate_left
   ·
    simp only [Act.put, nA, nZ, nS, i64_w, i32_w];rfl
   refine pure_ (i := 9) (N := some 54) (v := undef) (a' := ?_) (bm 14 1023) rfl rfl (by kernel_rfl) (fun _ _ _ h => h) (Or.inr ⟨by rfl, rfl⟩) ?_ ?_;rotate_left
   ·
    simp only [Act.put, nA, nZ, nS, i64_w, i32_w];rfl
   refine pure_ (i := 10) (N := some 55) (v := undef) (a' := ?_) (bm 14 2047) rfl rfl (by kernel_rfl) (fun _ _ _ h => h) (Or.inr ⟨by rfl, rfl⟩) ?_ ?_;rotate_left
   ·
    simp only [Act.put, nA, nZ, nS, i64_w, i32_w];rfl
   refine pure_ (i := 11) (N := some 56) (v := undef) (a' := ?_) (bm 14 4095) rfl rfl (by kernel_rfl) (fun _ _ _ h => h) (Or.inr ⟨by rfl, rfl⟩) ?_ ?_;rotate_left
   ·
    simp only [Act.put, nA, nZ, nS, i64_w, i32_w];rfl
   refine pure_ (i := 12) (N := some 57) (v := undef) (a' := ?_) (bm 14 8191) rfl rfl (by kernel_rfl) (fun _ _ _ h => h) (Or.inr ⟨by rfl, rfl⟩) ?_ ?_;rotate_left
   ·
    simp only [Act.put, nA, nZ, nS, i64_w, i32_w];rfl
   refine pure_ (i := 13) (N := some 58) (v := ?_) (a' := ?_) (bm 14 16383) rfl rfl (by kernel_rfl) (fun _ _ _ h => h) (Or.inl ⟨by rfl, ?_⟩) ?_ ?_;rotate_left;intro w';go_simp;(with_reducible rfl);rotate_left;simp only [Act.put, nA, nZ, nS, i64_w, i32_w];rfl;refine done_ (by kernel_rfl) ?_;have c0 := pw_cell_below HB5.out c0;have HB6 : Hid (Below W.heap.size W w5) := Hi (below_next_ HB3.out HB5.out);clear HB3 HB5 HB2
   go_wp2_with fail
   refine (rparent_next HB6 x0 (by have := HSX.out; omega)).mono ?_;rintro e w6 ⟨rfl, HB7⟩
   go_wp2_with fail
   refine (rkind_any l _ c (parentT x0) w6 (Kd.C_below HL.out HB7.out)).mono ?_;rintro e w7 ⟨rfl, hb8⟩;have HB8 : Hid (Below W.heap.size W w7) := Hi (below_next_ HB7.out hb8);clear HB6 HB7 hb8;generalize kindOf l (parentT x0) = kk at *
   by_cases g6 : kk = 1
   ·
    subst g6;have HN : Hid (SoFar l (k + 1)) := Hi (soFar_next HS.out HX.out (by rw [HV3.out]; rfl));clear HV3 HS HX;go_wp2;go_roundw
    case rel => exact ⟨k + 1, by omega, by go_num, HN, HB8⟩
    case measure => simp [intOf]; omega
   have q6 : (kk == 1) = false := by simpa using g6
   have HR : Hid (rightB l = false) := Hi (rightB_no HX.out (by rw [HV3.out]; exact decide_eq_false g6));clear HV3 HS HX;go_wp2;go_ret;exact ⟨by rw [HR.out]; rfl, HB8.out⟩
  have q0 : decide (0 < k) = true := decide_eq_true (by omega);obtain ⟨j, hj⟩ : ∃ j, j = k - 1 := ⟨_, rfl⟩;have hjl : j < l.length := by omega
  obtain ⟨ad', had, f0, _⟩ := item_at (Kd.C_below HL.out HB3.out) hjl;injection had with had
  subst had;have hy : l.getD j (x0, x1, x2, x3, x4, x5, x6, x7) = l[j] := by rw [List.getD_eq_getElem?_getD, List.getElem?_eq_getElem hjl]; rfl
  have HSY := Hi (HZ.out _ (List.getElem_mem hjl));rw [← hj] at HV2;rw [hy] at HV2;generalize l[j].1 = y0 at *;have qj : (j : Int) < (l.length : Int) := by omega
  have hkj : (k : Int) - 1 = (j : Int) := by omega
  have HK0 := Hi hk0;clear hy hj hk0;have wj : Go.RowKit.wrap64 (j : Int) = (j : Int) := w_le (Nat.le_of_lt hjl) hn
  go_wp2_with fail
  refine start_ (n := 14) (S := fun w' => w'.cell? (ad.add (j * 8)) = some (.string y0) ∧ w'.cell? ⟨bx, 0, none⟩ = some (.string x0)) (ds := [11]) (bm 14 0) (by kernel_rfl) rfl rfl ⟨f0, c0⟩ (fun hHeld => ?_);have HBd : Hid (Below w3.heap.size w3 w3.drew) := Hi (below_drew (Below.refl _ _));generalize w3.drew = w4 at *;refine pure_ (i := 0) (N := some 45) (v := ?_) (a' := ?_) (bm 14 1) rfl rfl (by kernel_rfl) (fun _ _ _ h => h) (Or.inl ⟨by rfl, ?_⟩) ?_ ?_;rotate_left;intro w';go_simp;(with_reducible rfl);rotate_left;simp only [Act.put, nA, nZ, nS, i64_w, i32_w];rfl;refine pure_ (i := 1) (N := some 46) (v := ?_) (a' := ?_) (bm 14 3) rfl rfl (by kernel_rfl) (fun _ _ _ h => h) (Or.inl ⟨by rfl, ?_⟩) ?_ ?_;rotate_left;intro w';go_simp;(with_reducible rfl);rotate_left;simp only [Act.put, nA, nZ, nS, i64_w, i32_w];rfl;refine pure_ (i := 2) (N := some 47) (v := ?_) (a' := ?_) (bm 14 7) rfl rfl (by kernel_rfl) (fun _ _ _ h => h) (Or.inl ⟨by rfl, ?_⟩) ?_ ?_;rotate_left;intro w';go_simp;(with_reducible rfl);rotate_left;simp only [Act.put, nA, nZ, nS, i64_w, i32_w];rfl;refine pure_ (i := 3) (N := some 48) (v := ?_) (a' := ?_) (bm 14 15) rfl rfl (by kernel_rfl) (fun _ _ _ h => h) (Or.inl ⟨by rfl, ?_⟩) ?_ ?_;rotate_left;intro w';go_simp;(with_reducible rfl);rotate_left;simp only [Act.put, nA, nZ, nS, i64_w, i32_w];rfl;refine pure_ (i := 4) (N := some 49) (v := ?_) (a' := ?_) (bm 14 31) rfl rfl (by kernel_rfl) (fun _ _ _ h => h) (Or.inl ⟨by rfl, ?_⟩) ?_ ?_;rotate_left;intro w';go_simp;(with_reducible rfl);rotate_left;simp only [Act.put, nA, nZ, nS, i64_w, i32_w];rfl;refine pure_ (i := 5) (N := some 50) (v := ?_) (a' := ?_) (bm 14 63) rfl rfl (by kernel_rfl) (fun _ _ _ h => h) (Or.inl ⟨by rfl, ?_⟩) ?_ ?_;rotate_left;intro w';go_simp;(with_reducible rfl);rotate_left;simp only [Act.put, nA, nZ, nS, i64_w, i32_w];rfl;refine pure_ (i := 6) (N := some 51) (v := ?_) (a' := ?_) (bm 14 127) rfl rfl (by kernel_rfl) (fun _ _ _ h => h) (Or.inl ⟨by rfl, ?_⟩) ?_ ?_;rotate_left;intro w';go_simp;(with_reducible rfl);rotate_left;simp only [Act.put, nA, nZ, nS, i64_w, i32_w];rfl;refine pure_ (i := 7) (N := some 52) (v := ?_) (a' := ?_) (bm 14 255) rfl rfl (by kernel_rfl) (fun _ _ _ h => h) (Or.inl ⟨by rfl, ?_⟩) ?_ ?_;rotate_left;intro w';go_simp;(with_reducible rfl);rotate_left;simp only [Act.put, nA, nZ, nS, i64_w, i32_w];rfl;refine pure_ (i := 9) (N := some 54) (v := ?_) (a' := ?_) (bm 14 767) rfl rfl (by kernel_rfl) (fun _ _ _ h => h) (Or.inl ⟨by rfl, ?_⟩) ?_ ?_;rotate_left;intro w';go_simp;(with_reducible rfl);rotate_left;simp only [Act.put, nA, nZ, nS, i64_w, i32_w];rfl;refine take_ (i := 8) (N := some 53) (v := ?_) (a' := ?_) (bm 14 1023) rfl rfl (by kernel_rfl) (fun _ _ _ h => h) (Or.inl ⟨by rfl, ?_⟩) hHeld ?_ ?_;rotate_left;rintro w' ⟨s0, s1⟩;go_simp;(with_reducible rfl);rotate_left;simp only [Act.put, nA, nZ, nS, i64_w, i32_w];rfl;refine take_ (i := 10) (N := some 55) (v := ?_) (a' := ?_) (bm 14 2047) rfl rfl (by kernel_rfl) (fun _ _ _ h => h) (Or.inl ⟨by rfl, ?_⟩) hHeld ?_ ?_
  rotate_left;rintro w' ⟨s0, s1⟩;go_simp;(with_reducible rfl);rotate_left;simp only [Act.put, nA, nZ, nS, i64_w, i32_w];rfl;refine last_ (i := 11) (N := some 56) (bm 14 4095) rfl rfl (by kernel_rfl) (by decide) (fun K hK => ?_);refine goes_ Tryz.func67 (by kernel_rfl) rfl #[.string y0, .string x0] (by rfl) rfl rfl (by simp only [List.map_toArray, List.map_cons, List.map_nil]; rfl) ?_;with_reducible refine (rorder_next HBd y0 x0 HSY.out HSX.out).mono ?_
  rintro e w5 ⟨rfl, HB5⟩;refine ⟨_, rfl, ?_⟩;generalize orderT y0 x0 = rr at *;refine hK.out _ _ ?_;clear hK K;refine norm_ (a' := ?_) ?_ ?_;rotate_left
  ·
   show Act.put _ (some 56) _ = _
   simp only [Act.put, nA, nZ, nS, i64_w, i32_w];rfl
  refine pure_ (i := 12) (N := some 57) (v := ?_) (a' := ?_) (bm 14 8191) rfl rfl (by kernel_rfl) (fun _ _ _ h => h) (Or.inl ⟨by rfl, ?_⟩) ?_ ?_;rotate_left;intro w';go_simp;(with_reducible rfl);rotate_left;simp only [Act.put, nA, nZ, nS, i64_w, i32_w];rfl;refine pure_ (i := 13) (N := some 58) (v := ?_) (a' := ?_) (bm 14 16383) rfl rfl (by kernel_rfl) (fun _ _ _ h => h) (Or.inl ⟨by rfl, ?_⟩) ?_ ?_;rotate_left;intro w';go_simp;(with_reducible rfl);rotate_left;simp only [Act.put, nA, nZ, nS, i64_w, i32_w];rfl;refine done_ (by kernel_rfl) ?_;clear wj hkj;generalize hbb : decide (0 ≤ rr) = bb;cases bb
  case false =>
   have g5 : rr < 0 := by have := of_decide_eq_false hbb; omega
   have HV3 : Hid (stepOk l k (x0, x1, x2, x3, x4, x5, x6, x7) = decide (kindOf l (parentT x0) = 1)) := Hi (by rw [HV2.out rr rfl, decide_eq_true g5, decide_eq_false HK0.out]; rfl);clear HV2 HK0 g5 f0 HSY hbb;have c0 := pw_cell_below HB5.out c0;have HB6 : Hid (Below W.heap.size W w5) := Hi (below_next_ HB3.out HB5.out);clear HB3 HB5 HB2
   go_wp2_with fail
   refine (rparent_next HB6 x0 (by have := HSX.out; omega)).mono ?_;rintro e w6 ⟨rfl, HB7⟩
   go_wp2_with fail
   refine (rkind_any l _ c (parentT x0) w6 (Kd.C_below HL.out HB7.out)).mono ?_;rintro e w7 ⟨rfl, hb8⟩;have HB8 : Hid (Below W.heap.size W w7) := Hi (below_next_ HB7.out hb8);clear HB6 HB7 hb8;generalize kindOf l (parentT x0) = kk at *
   by_cases g6 : kk = 1
   ·
    subst g6;have HN : Hid (SoFar l (k + 1)) := Hi (soFar_next HS.out HX.out (by rw [HV3.out]; rfl));clear HV3 HS HX;go_wp2;go_roundw
    case rel => exact ⟨k + 1, by omega, by go_num, HN, HB8⟩
    case measure => simp [intOf]; omega
   have q6 : (kk == 1) = false := by simpa using g6
   have HR : Hid (rightB l = false) := Hi (rightB_no HX.out (by rw [HV3.out]; exact decide_eq_false g6));clear HV3 HS HX;go_wp2;go_ret;exact ⟨by rw [HR.out]; rfl, HB8.out⟩
  have g5 : ¬ rr < 0 := by have := of_decide_eq_true hbb; omega
  have HR : Hid (rightB l = false) := Hi (rightB_no HX.out (by rw [HV2.out rr rfl, decide_eq_false g5, decide_eq_false HK0.out]; rfl));have HB6 : Hid (Below W.heap.size W w5) := Hi (below_next_ HB3.out HB5.out);clear HV2 HK0 HS HX f0 HB3 HB5 hbb g5;go_wp2;go_ret;exact ⟨by rw [HR.out]; rfl, HB6.out⟩
 have HR := Hi (soFar_end HS.out (by omega));clear HS;go_wp2;go_ret;exact ⟨by rw [HR.out]; rfl, HB.out⟩
end Go.Proofs.YtibmfjacfbpfgaaGreatDoor.TreeRight
