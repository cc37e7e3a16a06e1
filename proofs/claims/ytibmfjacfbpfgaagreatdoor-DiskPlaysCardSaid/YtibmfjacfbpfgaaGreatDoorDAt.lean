/- disk: the place of a path among items, in the program's hands; what is at a place; how many bytes. -/
import Derived.Test.YtibmfjacfbpfgaaGreatDoorLawD
import Derived.Test.YtibmfjacfbpfgaaGreatDoorOwn
import Derived.Shelf.Bodies
set_option maxHeartbeats 32000000
set_option linter.unusedVariables false
set_option linter.unusedSimpArgs false
namespace Go.Proofs.YtibmfjacfbpfgaaGreatDoor.DAt
open Go.RowKit YtibmfjacfbpfgaaGreatDoorW PrintWords PrintLast PrintMore NameLaw NameCmp NameWalk YtibmfjacfbpfgaaGreatDoor.Item Own TreeLaw SortIns RealLaw DoneLaw KeepLaw OpLaw
theorem ord_any (pa : ByteArray) (kd mo ui gi mt at_ : Int) (da p : ByteArray) (w : World) (hg : Glob w) (h1 : pa.size < 4294967281) (h2 : p.size < 4294967281) :
  Calls Tryz.prog 105 #[.agg #[.string pa, .int .i64 kd, .int .u32 mo, .int .u32 ui, .int .u32 gi, .int .i64 mt, .int .i64 at_, .string da], .string p] w fun e w' => e = .returned (.int .i64 (orderT pa p)) ∧ Below w.heap.size w w' := by
 have hb0 := below_one w (.cells #[.string pa, .int .i64 kd, .int .u32 mo, .int .u32 ui, .int .u32 gi, .int .i64 mt, .int .i64 at_, .string da] 77);have HB0 := Hi hb0;have HC := Hi (order_any pa p _ (hg.below hb0) h1 h2);have c0 : (w.alloc (.cells #[.string pa, .int .i64 kd, .int .u32 mo, .int .u32 ui, .int .u32 gi, .int .i64 mt, .int .i64 at_, .string da] 77)).cell? ⟨w.heap.size, 0, none⟩ = some (.string pa) := by rw [cell_of (heap_new w _)]; rfl
 generalize orderT pa p = r at *;clear hb0;go_enter Tryz.func105, Tryz.ntmps105
 go_wp2_with (go_at_call 83; refine HC.out.mono ?_; rintro e w1 ⟨rfl, hb⟩; have HB := Hi (below_next HB0.out hb); clear hb)
 go_ret;exact ⟨rfl, HB.out⟩
theorem search_any (l : List It) (A : Option Addr) (c : Nat) (p : ByteArray) (w : World) (hg : Glob w) (hl : ItemC w A l) (hn : l.length ≤ 1000000) (hs : ∀ x ∈ l, x.1.size < 4294967281) (hp : p.size < 4294967281) :
  Calls Tryz.prog 104 #[.slice A l.length c, .string p, .func (.func 105) #[] #[]] w fun e w' => e = .returned (.tuple #[.int .i64 (placeP l p), .bool (hereP l p)]) ∧ Below w.heap.size w w' := by
 have HG := Hi hg;have HL := Hi hl;have HS := Hi hs;have HR0 := Hi (place_go l p).1;obtain ⟨R, hR⟩ : ∃ R, R = placeP l p := ⟨_, rfl⟩;have HH := Hi (show hereP l p = (decide (R < l.length) && (ordAt l p R == 0)) by rw [hR]; rfl);have hRl : R ≤ l.length := by rw [hR]; exact (place_go l p).2
 rw [← hR] at HR0 ⊢;generalize hereP l p = hh at *;clear hR hg hl hs;have eg := enters_of Tryz.func105 (by kernel_rfl) rfl;obtain ⟨F, hF⟩ : ∃ F, F = l.length + 1 := ⟨_, rfl⟩;rw [← hF] at HR0;clear hF;go_enter Tryz.func104, Tryz.ntmps104;go_wp2
 go_loopg [9, 10, 11] F (fun g vi vj vh wr => ∃ i j : Nat, vi = .int .i64 i ∧ vj = .int .i64 j ∧ i ≤ j ∧ j ≤ l.length ∧ Hid (bsGo g l p i j = some R) ∧ Hid (Below w.heap.size w wr))
 case atStart => exact ⟨0, l.length, rfl, rfl, by omega, by omega, HR0, Hi (Below.refl _ _)⟩
 clear HR0;obtain ⟨i, j, rfl, rfl, hij, hj, HR, HB⟩ := hrel
 cases gk with
 | zero => exact absurd HR.out (by simp [bsGo])
 | succ g =>
  have hM := HR.out;clear HR;unfold bsGo at hM
  by_cases h1 : i < j
  ·
   rw [if_pos h1] at hM;have h1I : (i : Int) < (j : Int) := by omega
   obtain ⟨h, hh2⟩ : ∃ h, h = (i + j) / 2 := ⟨_, rfl⟩;rw [← hh2] at hM;have hhI : ((i : Int) + (j : Int)) / 2 = (h : Int) := by omega
   have hhl : h < l.length := by omega
   have hhij : i ≤ h ∧ h < j := by omega
   obtain ⟨ad, rfl, e0, e1, e2, e3, e4, e5, e6, e7⟩ := item_at (Kd.C_below HL.out HB.out) hhl;have hsz := HS.out _ (List.getElem_mem hhl);have ho : ordAt l p h = orderT (l[h]).1 p := by unfold ordAt; rw [DoneLaw.get_at l zIt h hhl]
   rw [ho] at hM;clear hh2 ho;generalize l[h] = x at *;obtain ⟨pa, kd, mo, ui, gi, mt, at_, da⟩ := x;simp only at e0 e1 e2 e3 e4 e5 e6 e7 hsz hM;have HC := Hi (ord_any pa kd mo ui gi mt at_ da p wr (HG.out.below HB.out) hsz hp);generalize orderT pa p = r at *
   go_wp2_with fail
   refine HC.out.mono ?_;rintro e w2 ⟨rfl, hb2⟩;have HB2 := Hi (below_next HB.out hb2);clear hb2 HC HB e0 e1 e2 e3 e4 e5 e6 e7
   by_cases hr : r < 0
   ·
    rw [if_pos hr] at hM;have HM := Hi hM;have q0 : decide (r < 0) = true := decide_eq_true hr;clear hM;go_wp2
    go_roundg g
    case measure => omega
    case rel => exact ⟨h + 1, j, by go_num, rfl, by omega, hj, HM, HB2⟩
   rw [if_neg hr] at hM;have HM := Hi hM;have q0 : decide (r < 0) = false := decide_eq_false hr;clear hM;go_wp2
   go_roundg g
   case measure => omega
   case rel => exact ⟨i, h, rfl, rfl, by omega, by omega, HM, HB2⟩
  rw [if_neg h1] at hM;have h1I : ¬ (i : Int) < (j : Int) := by omega
  obtain rfl : i = R := Option.some.inj hM;clear hM
  by_cases h2 : i < l.length
  ·
   have h2I : (i : Int) < (l.length : Int) := by omega
   obtain ⟨ad, rfl, e0, e1, e2, e3, e4, e5, e6, e7⟩ := item_at (Kd.C_below HL.out HB.out) h2;have hsz := HS.out _ (List.getElem_mem h2);have ho : ordAt l p i = orderT (l[i]).1 p := by unfold ordAt; rw [DoneLaw.get_at l zIt i h2]
   have hH := HH.out;rw [ho, decide_eq_true h2, Bool.true_and] at hH;clear ho HH;generalize l[i] = x at *;obtain ⟨pa, kd, mo, ui, gi, mt, at_, da⟩ := x;simp only at e0 e1 e2 e3 e4 e5 e6 e7 hsz hH;have HC := Hi (ord_any pa kd mo ui gi mt at_ da p wr (HG.out.below HB.out) hsz hp);have HHH := Hi hH;clear hH;generalize orderT pa p = r at *
   go_wp2_with fail
   refine HC.out.mono ?_;rintro e w2 ⟨rfl, hb2⟩;have HB2 := Hi (below_next HB.out hb2);clear hb2 HC HB e0 e1 e2 e3 e4 e5 e6 e7;go_wp2;go_ret2;exact ⟨by rw [HHH.out]; rfl, HB2.out⟩
  have h2I : ¬ (i : Int) < (l.length : Int) := by omega
  have HHH := Hi (show hh = false by rw [HH.out, decide_eq_false h2, Bool.false_and]);go_wp2;go_ret2;exact ⟨by rw [HHH.out]; rfl, HB.out⟩
theorem at_any (l : List It) (A : Option Addr) (c : Nat) (p : ByteArray) (w : World) (hg : Glob w) (hl : ItemC w A l) (hn : l.length ≤ 1000000) (hs : ∀ x ∈ l, x.1.size < 4294967281) (hp : p.size < 4294967281) :
  Calls Tryz.prog 70 #[.slice A l.length c, .string p] w fun e w' => e = .returned (.tuple #[.int .i64 (placeP l p), .bool (hereP l p)]) ∧ Below w.heap.size w w' := by
 have HC := Hi (search_any l A c p w hg hl hn hs hp);clear hg hl hs;generalize placeP l p = r at *;generalize hereP l p = q at *;go_enter Tryz.func70, Tryz.ntmps70
 go_wp2_with (go_at_call 104; refine HC.out.mono ?_; rintro e w1 ⟨rfl, hb⟩; have HB := Hi hb; clear hb)
 go_ret2;exact ⟨rfl, HB.out⟩
def kindP (s : List It) (p : ByteArray) : Int := if hereP s p then (s.getD (placeP s p) zIt).2.1 else 0
theorem kindP_is {s : List It} (hs : Strict s) {p : ByteArray} (hp : p.data.toList ≠ []) : kindP s p = kindOf s p := by
 rw [kind_find hp, here_find hs p];unfold kindP
 by_cases h : hereP s p = true
 ·
  rw [if_pos h, dif_pos h, DoneLaw.get_at _ _ _ (here_iff.1 h).1]
 rw [if_neg h, dif_neg h]
theorem kindP_any (b : Nat) (s : List It) (A : Option Addr) (c : Nat) (p : ByteArray) (W : World) (hg : Glob W) (c1 : W.cell? ⟨b, 1, none⟩ = some (.slice A s.length c)) (hl : ItemC W A s) (hn : s.length ≤ 1000000) (hs : ∀ x ∈ s, x.1.size < 4294967281) (hp : p.size < 4294967281) (h0 : p.toList ≠ []) :
  Calls Tryz.prog 59 #[.pointer (some ⟨b, 0, none⟩), .string p] W fun e w' => e = .returned (.int .i64 (kindP s p)) ∧ Below W.heap.size W w' := by
 have HC := Hi (at_any s A c p W hg hl hn hs hp);have HL := Hi hl;have hd2 : p.toList.isEmpty = false := by simp [h0]
 have HK := Hi (show kindP s p = if hereP s p then (s.getD (placeP s p) zIt).2.1 else 0 from rfl);have HH := Hi (show hereP s p = true → placeP s p < s.length by intro h; unfold hereP at h; rw [Bool.and_eq_true] at h; exact of_decide_eq_true h.1);generalize kindP s p = R at *;generalize hereP s p = hh at *;generalize placeP s p = r at *;clear hg hl hs
 cases hh with
 | false =>
  go_enter Tryz.func59, Tryz.ntmps59
  go_wp2_with (go_at_call 70; refine HC.out.mono ?_; rintro e w1 ⟨rfl, hb⟩; have HB := Hi hb; clear hb)
  go_ret;exact ⟨by rw [HK.out]; rfl, HB.out⟩
 | true =>
  have hr := HH.out rfl;have hrI : (r : Int) < (s.length : Int) := by omega
  obtain ⟨ad, rfl, e0, e1, e2, e3, e4, e5, e6, e7⟩ := item_at HL.out hr;have hk := HK.out;rw [if_pos rfl, DoneLaw.get_at s zIt r hr] at hk;clear HK;generalize s[r] = x at *;obtain ⟨pa, kd, mo, ui, gi, mt, at_, da⟩ := x;simp only at e0 e1 e2 e3 e4 e5 e6 e7 hk;have HK := Hi hk;clear hk;go_enter Tryz.func59, Tryz.ntmps59
  go_wp2_with fail
  refine HC.out.mono ?_;rintro e w1 ⟨rfl, hb⟩;have HB := Hi hb;have d1 := pw_cell_below hb c1;have f1 := pw_cell_below hb e1;clear hb c1 e0 e1 e2 e3 e4 e5 e6 e7;go_wp2;go_ret;exact ⟨by rw [HK.out]; rfl, HB.out⟩
theorem kind_any (b : Nat) (s : List It) (A : Option Addr) (c : Nat) (p : ByteArray) (W : World) (hg : Glob W) (c1 : W.cell? ⟨b, 1, none⟩ = some (.slice A s.length c)) (hl : ItemC W A s) (hn : s.length ≤ 1000000) (ho : Strict s) (hs : ∀ x ∈ s, x.1.size < 4294967281) (hp : p.size < 4294967281) :
  Calls Tryz.prog 59 #[.pointer (some ⟨b, 0, none⟩), .string p] W fun e w' => e = .returned (.int .i64 (kindOf s p)) ∧ Below W.heap.size W w' := by
 by_cases h0 : p.toList = []
 ·
  rw [kind_nil s p (by rw [← Lib.toList_data]; exact h0)];have hd2 : p.toList.isEmpty = true := by rw [h0]; rfl
  clear hl hs ho hg;go_enter Tryz.func59, Tryz.ntmps59;go_wp2;go_ret;exact ⟨rfl, Below.refl _ _⟩
 rw [← kindP_is ho (by rw [← Lib.toList_data]; exact h0)];exact kindP_any b s A c p W hg c1 hl hn hs hp h0
def sumP (p : ByteArray) : List It → Int
 | [] => 0
 | x :: t => (if x.1 = p then 0 else (x.2.2.2.2.2.2.2.size : Int)) + sumP p t
theorem sum_cons (p : ByteArray) (x : It) (t : List It) : sumP p (x :: t) = (if x.1 = p then 0 else (x.2.2.2.2.2.2.2.size : Int)) + sumP p t := rfl
theorem sum_bound (p : ByteArray) : ∀ (s : List It), (∀ x ∈ s, x.2.2.2.2.2.2.2.size ≤ 1000000) → 0 ≤ sumP p s ∧ sumP p s ≤ 1000000 * s.length
 | [], _ => by simp [sumP]
 | x :: t, h => by
  have h1 := sum_bound p t (fun y hy => h y (List.mem_cons_of_mem _ hy));have h2 := h x (by simp);unfold sumP;rw [List.length_cons]
  split <;> omega
theorem sumP_sumO (p : ByteArray) : ∀ s : List It, sumP p s = (sumO s p : Int)
 | [] => rfl
 | x :: t => by
  rw [sum_cons, sumP_sumO p t];unfold sumO;rw [List.filter_cons]
  by_cases h : x.1 = p
  ·
   rw [if_pos h, if_neg (by simp [h])]; omega
  rw [if_neg h, if_pos (by simp [h]), List.map_cons, List.sum_cons];simp
theorem full_any (b : Nat) (s : List It) (A : Option Addr) (c : Nat) (p : ByteArray) (m lim : Int) (W : World) (c1 : W.cell? ⟨b, 1, none⟩ = some (.slice A s.length c)) (c3 : W.cell? ⟨b, 3, none⟩ = some (.int .i64 lim)) (hl : ItemC W A s) (hn : s.length ≤ 1000000) (hs : ∀ x ∈ s, x.2.2.2.2.2.2.2.size ≤ 1000000) (hm : 0 ≤ m) (hm2 : m ≤ 1000000) :
  Calls Tryz.prog 60 #[.pointer (some ⟨b, 0, none⟩), .string p, .int .i64 m] W fun e w' => e = .returned (.bool (decide (lim < m + sumP p s))) ∧ Below W.heap.size W w' := by
 have HL := Hi hl;have HS := Hi hs;have HC3 := Hi c3;have hbd := sum_bound p s hs;have HSB := Hi hbd;obtain ⟨R, hR⟩ : ∃ R, R = m + sumP p s := ⟨_, rfl⟩;have HR0 := Hi (show m + sumP p (s.drop 0) = R from hR.symm);have hRb : 0 ≤ R ∧ R ≤ 1000000000001000000 := by omega
 rw [← hR];clear hR hl hs hbd c3;go_enter Tryz.func60, Tryz.ntmps60;go_wp2
 go_loopw [7, 16] (fun v i wr => ∃ (k : Nat) (a : Int), k ≤ s.length ∧ i = .int .i64 k ∧ v = .int .i64 a ∧ 0 ≤ a ∧ a ≤ 1000000 * k + 1000000 ∧ Hid (a + sumP p (s.drop k) = R) ∧ Hid (Below W.heap.size W wr)) (fun v i _ => s.length - (intOf i).toNat)
 case atStart => exact ⟨0, m, by omega, rfl, rfl, hm, by omega, HR0, Hi (Below.refl _ _)⟩
 clear HR0;obtain ⟨k, a, hk, rfl, rfl, ha0, ha1, HR, HB⟩ := hrel
 by_cases hlt : k < s.length
 ·
  obtain ⟨ad, rfl, e0, e1, e2, e3, e4, e5, e6, e7⟩ := item_at (Kd.C_below HL.out HB.out) hlt;have hltI : (k : Int) < s.length := by omega
  have hR := HR.out;rw [List.drop_eq_getElem_cons hlt] at hR;have hsz := HS.out _ (List.getElem_mem hlt);clear HR;generalize s[k] = x at *;obtain ⟨pa, kd, mo, ui, gi, mt, at_, da⟩ := x;simp only at e0 e1 e2 e3 e4 e5 e6 e7 hsz;rw [sum_cons] at hR
  (try simp only at hR)
  have HB3 := Hi (HB.out.alloc HB.out.size (.cells #[.string pa, .int .i64 kd, .int .u32 mo, .int .u32 ui, .int .u32 gi, .int .i64 mt, .int .i64 at_, .string da] 77))
  by_cases hp : pa = p
  ·
   rw [if_pos hp] at hR;subst hp;have HR := Hi (show a + sumP pa (s.drop (k + 1)) = R by omega);have ql : (pa.toList == pa.toList) = true := by simp
   clear hR;go_wp2;go_roundw
   case rel => exact ⟨k + 1, a, by omega, by go_num, rfl, ha0, by omega, HR, HB3⟩
   case measure => simp [intOf]; omega
  rw [if_neg hp] at hR;have HR := Hi (show (a + (da.size : Int)) + sumP p (s.drop (k + 1)) = R by omega);have ql : (pa.toList == p.toList) = false := by rw [toList_inj]; exact decide_eq_false hp
  have hw : Go.RowKit.wrap64 (a + (da.size : Int)) = a + (da.size : Int) := by unfold Go.RowKit.wrap64; omega
  clear hR;go_wp2;go_roundw
  case rel => exact ⟨k + 1, a + (da.size : Int), by omega, by go_num, rfl, by omega, by omega, HR, HB3⟩
  case measure => simp [intOf]; omega
 have HS2 := Hi (show a = R by rw [← HR.out, List.drop_of_length_le (by omega)]; simp [sumP]);have d3 := pw_cell_below HB.out HC3.out;go_wp2;go_ret;exact ⟨by rw [HS2.out]; rfl, HB.out⟩
end Go.Proofs.YtibmfjacfbpfgaaGreatDoor.DAt
