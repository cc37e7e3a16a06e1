/- the document's Put, Drop; both Bytes; tree.Same. -/
import Derived.Test.YtibmfjacfbpfgaaGreatDoorDiffLaw
import Derived.Test.YtibmfjacfbpfgaaGreatDoorRSort
set_option maxHeartbeats 32000000
set_option linter.unusedVariables false
set_option linter.unusedSimpArgs false
namespace Go.Proofs.YtibmfjacfbpfgaaGreatDoor.TreeRef2
open Go.RowKit YtibmfjacfbpfgaaGreatDoorW PrintWords PrintLast PrintMore YtibmfjacfbpfgaaGreatDoor.Item Own TreeLaw NameLaw NameWalk NameOrd NameRef NameUse SortIns NodeRes TreeRef TreeNodes FillLaw RSort DiffLaw
set_option maxRecDepth 100000 in
theorem without_any (l : List It) (A : Option Addr) (c : Nat) (s : ByteArray) (W : World) (hl : ItemC W A l) (hn : l.length ≤ 1000000) :
  Calls Tryz.prog 22 #[.slice A l.length c, .string s] W fun e w' => ∃ v, e = .returned v ∧ itemK.R 77 w' W.heap.size (fun _ => True) v (woP l s) ∧ Below W.heap.size W w' := by
 have HL := Hi hl;have hl1 := hl.2.1;clear hl;obtain ⟨R, hR⟩ : ∃ R, R = woP l s := ⟨_, rfl⟩;have HR0 : Hid ([] ++ (l.drop 0).filter (fun y => !isAt s y) = R) := Hi hR.symm;rw [← hR];clear hR;go_enter Tryz.func22, Tryz.ntmps22;go_wp2
 go_loopw [5, 10] (fun v i wr => ∃ (k : Nat) (acc : List It), k ≤ l.length ∧ acc.length ≤ k ∧ i = .int .i64 k ∧ Hid (acc ++ (l.drop k).filter (fun y => !isAt s y) = R) ∧ Hid (itemK.R 77 wr W.heap.size (fun _ => True) v acc) ∧ Hid (Below W.heap.size W wr)) (fun _ i _ => l.length - (intOf i).toNat)
 case atStart => exact ⟨0, [], by omega, by simp, rfl, HR0, Hi (Kd.R_nil _ _ _ _ _), Hi (Below.refl _ _)⟩
 clear HR0;obtain ⟨k, acc, hk, hacc, rfl, HR, HO, HB⟩ := hrel;obtain ⟨Av, cv, hv⟩ := Kd.R_slice HO.out;subst hv
 by_cases hlt : k < l.length
 ·
  obtain ⟨ad, rfl, e0, e1, e2, e3, e4, e5, e6, e7⟩ := item_at (Kd.C_below HL.out HB.out) hlt;have hltI : (k : Int) < l.length := by omega
  have hr := HR.out;rw [List.drop_eq_getElem_cons hlt, List.filter_cons] at hr;have HRR := Hi hr;clear HR hr;generalize l[k] = x at *;obtain ⟨x0, x1, x2, x3, x4, x5, x6, x7⟩ := x;simp only at e0 e1 e2 e3 e4 e5 e6 e7;have hb := below_one wr (.cells #[.string x0, .int .i64 x1, .int .u32 x2, .int .u32 x3, .int .u32 x4, .int .i64 x5, .int .i64 x6, .string x7] 77);have HX := Hi (heap_new wr (.cells #[.string x0, .int .i64 x1, .int .u32 x2, .int .u32 x3, .int .u32 x4, .int .i64 x5, .int .i64 x6, .string x7] 77));have HB1 := Hi (below_next HB.out hb);have HO1 := Hi (Kd.R_below HO.out hb);clear hb HO HB;obtain ⟨c0, c1, c2, c3, c4, c5, c6, c7⟩ := Own.cs8 HX.out
  by_cases hq : x0 = s
  ·
   have q0 : (x0.toList == s.toList) = true := by rw [toList_inj]; exact decide_eq_true hq
   have hp : (!isAt s (x0, x1, x2, x3, x4, x5, x6, x7)) = false := by rw [show isAt s (x0, x1, x2, x3, x4, x5, x6, x7) = true from decide_eq_true hq]; rfl
   clear hq;have HR2 : Hid (acc ++ (l.drop (k + 1)).filter (fun y => !isAt s y) = R) := Hi (by have h := HRR.out; rw [hp, if_neg (by simp)] at h; exact h);clear HRR hp;go_wp2;go_roundw
   case rel => exact ⟨k + 1, acc, by omega, by omega, by go_num, HR2, HO1, HB1⟩
   case measure => simp [intOf]; omega
  have q0 : (x0.toList == s.toList) = false := by rw [toList_inj]; exact decide_eq_false hq
  have hp : (!isAt s (x0, x1, x2, x3, x4, x5, x6, x7)) = true := by rw [show isAt s (x0, x1, x2, x3, x4, x5, x6, x7) = false from decide_eq_false hq]; rfl
  clear hq;have HR2 : Hid ((acc ++ [(x0, x1, x2, x3, x4, x5, x6, x7)]) ++ (l.drop (k + 1)).filter (fun y => !isAt s y) = R) := Hi (by have h := HRR.out; rw [hp, if_pos rfl] at h; rw [← h]; simp);clear HRR hp
  go_wp2_with ((with_reducible refine gate_builtin (b := .append) (xs := #[.tmp 18, .tmp 20]) rfl ?_); at_builtin; refine Kd.R_append itemK (w0 := W) W.heap.size rfl (.tmp 18) (.tmp 20) 41 77 (.agg #[.string ByteArray.empty, .int .i64 0, .int .u32 0, .int .u32 0, .int .u32 0, .int .i64 0, .int .i64 0, .string ByteArray.empty]) 72 rfl Tryz.underlying41 infoItem rfl (by decide) (by decide) (.slice Av acc.length cv) acc (x0, x1, x2, x3, x4, x5, x6, x7) [.string x0, .int .i64 x1, .int .u32 x2, .int .u32 x3, .int .u32 x4, .int .i64 x5, .int .i64 x6, .string x7] (fun _ => True) (fun _ => False) rfl (by first | rfl | (simp; done) | (simp; rfl)) ?aP (fun _ hk => hk.elim) ?aF ?aO ?aB ?aS ?aL ?_; skip)
  case aP => exact itemK_M _ _ _ (x0, x1, x2, x3, x4, x5, x6, x7)
  case aB => exact HB1.out
  case aF => exact (fun _ _ => trivial)
  case aO => exact HO1.out
  case aS => exact HB1.out.size
  case aL => first | omega | (simp; done) | (simp; omega)
  intro va w5 ho hb5 hg5 hat5;have HO6 := Hi ho;have HB6 := Hi hb5;clear ho hb5 hg5 hat5;go_wp2;go_roundw
  case rel => exact ⟨k + 1, acc ++ [(x0, x1, x2, x3, x4, x5, x6, x7)], by omega, by rw [List.length_append, List.length_singleton]; omega, by go_num, HR2, HO6, HB6⟩
  case measure => simp [intOf]; omega
 have HS : Hid (acc = R) := Hi (by rw [← HR.out, List.drop_of_length_le (by omega)]; simp);clear HR;go_wp2;go_ret;exact ⟨_, rfl, by rw [← HS.out]; exact HO.out, HB.out⟩
set_option maxRecDepth 100000 in
theorem rput_any (l : List It) (A : Option Addr) (c : Nat) (s : ByteArray) (kd mo ui gi mt at_ : Int) (da : ByteArray) (W : World) (hl : ItemC W A l) (hn : l.length ≤ 1000000) (hs : ∀ x ∈ l, x.1.size ≤ 10000) (hp : s.size ≤ 10000) :
  Calls Tryz.prog 106 #[.slice A l.length c, .string s, .agg #[.int .i64 kd, .int .u32 mo, .int .u32 ui, .int .u32 gi, .int .i64 mt, .int .i64 at_, .string da]] W fun e w' => ∃ v, e = .returned v ∧ itemK.R 77 w' W.heap.size (fun _ => True) v (putP l (s, kd, mo, ui, gi, mt, at_, da)) ∧ Below W.heap.size W w' := by
 have hb1 := below_one W (.cells #[.int .i64 kd, .int .u32 mo, .int .u32 ui, .int .u32 gi, .int .i64 mt, .int .i64 at_, .string da] 34);have HB0 := Hi hb1;have HN0 := Hi (heap_new W (.cells #[.int .i64 kd, .int .u32 mo, .int .u32 ui, .int .u32 gi, .int .i64 mt, .int .i64 at_, .string da] 34));have HWO := Hi (without_any l A c s (W.alloc (.cells #[.int .i64 kd, .int .u32 mo, .int .u32 ui, .int .u32 gi, .int .i64 mt, .int .i64 at_, .string da] 34)) (Kd.C_below hl hb1) hn);have hwl : (woP l s).length ≤ 1000000 := Nat.le_trans (List.length_filter_le _ _) hn;have HS : Hid (∀ x ∈ woP l s, x.1.size ≤ 10000) := Hi (fun x hx => hs x (List.mem_filter.1 hx).1);have HPT : Hid (insR (s, kd, mo, ui, gi, mt, at_, da) (woP l s) = putP l (s, kd, mo, ui, gi, mt, at_, da)) := Hi (ins_put l (s, kd, mo, ui, gi, mt, at_, da));clear hb1 hl hs hn;obtain ⟨S, hS⟩ : ∃ S, S = putP l (s, kd, mo, ui, gi, mt, at_, da) := ⟨_, rfl⟩;rw [← hS] at HPT;rw [← hS];clear hS;go_enter Tryz.func106, Tryz.ntmps106
 go_wp2_with fail
 refine HWO.out.mono ?_;generalize W.alloc (.cells #[.int .i64 kd, .int .u32 mo, .int .u32 ui, .int .u32 gi, .int .i64 mt, .int .i64 at_, .string da] 34) = U at *;generalize hbn : W.heap.size = bn at *;rintro e w2 ⟨v, rfl, hr, hb⟩;obtain ⟨Ao, co, hv, hco, hC⟩ := Kd.R_reads hr;subst hv;have HC := Hi hC;have HN := Hi (Own.kp hb HN0.out);have HB : Hid (Below bn W w2) := Hi (by subst hbn; exact below_next HB0.out hb);clear hr hb hC HWO HB0 HN0 hco;generalize woP l s = o at *;have HI0 : Hid ([] ++ contR false (s, kd, mo, ui, gi, mt, at_, da) (o.drop 0) = S) := Hi HPT.out;go_wp2
 go_loopw [7, 8, 15] (fun v7 vd i wi => ∃ (j : Nat) (d : Bool) (nx : List It), j ≤ o.length ∧ nx.length ≤ 2 * j ∧ i = .int .i64 j ∧ vd = .bool d ∧ Hid (nx ++ contR d (s, kd, mo, ui, gi, mt, at_, da) (o.drop j) = S) ∧ Hid (itemK.R 77 wi w2.heap.size (fun _ => True) v7 nx) ∧ Hid (Below w2.heap.size w2 wi)) (fun _ _ i _ => o.length - (intOf i).toNat)
 case atStart => exact ⟨0, false, [], by omega, by simp, rfl, rfl, HI0, Hi (Kd.R_nil _ _ _ _ _), Hi (Below.refl _ _)⟩
 clear HI0;obtain ⟨j, d, nx, hj, hnx, rfl, rfl, HI, HO, HW⟩ := hrel;obtain ⟨Av, cv, hv⟩ := Kd.R_slice HO.out;subst hv;have HN1 := Hi (Own.kp HW.out HN.out)
 by_cases hj2 : j < o.length
 ·
  obtain ⟨ay, rfl, f0, f1, f2, f3, f4, f5, f6, f7⟩ := item_at (Kd.C_below HC.out HW.out) hj2;have hjI : (j : Int) < o.length := by omega
  have hi := HI.out;rw [List.drop_eq_getElem_cons hj2] at hi;have hyz := HS.out _ (List.getElem_mem hj2);clear HI;generalize o[j] = y at *;obtain ⟨y0, y1, y2, y3, y4, y5, y6, y7⟩ := y;simp only at f0 f1 f2 f3 f4 f5 f6 f7 hi hyz;have hb := below_one wr (.cells #[.string y0, .int .i64 y1, .int .u32 y2, .int .u32 y3, .int .u32 y4, .int .i64 y5, .int .i64 y6, .string y7] 77);have HY := Hi (heap_new wr (.cells #[.string y0, .int .i64 y1, .int .u32 y2, .int .u32 y3, .int .u32 y4, .int .i64 y5, .int .i64 y6, .string y7] 77));have HN2 := Hi (Own.kp hb HN1.out);have HW2 := Hi (below_next HW.out hb);have HNE : Hid (∀ k, (Value.slice Av nx.length cv).ownBlock = some k → k < wr.heap.size) := Hi (Kd.R_lt HO.out);have HO2 := Hi (Kd.R_below HO.out hb);have HII := Hi hi;clear hb HN1 HW HO hi
  cases d with
  | true =>
   have HS1 : Hid ((nx ++ [(y0, y1, y2, y3, y4, y5, y6, y7)]) ++ contR true (s, kd, mo, ui, gi, mt, at_, da) (o.drop (j + 1)) = S) := Hi (by rw [← HII.out]; unfold contR; rw [if_pos rfl, if_pos rfl]; simp);obtain ⟨d0, d1, d2, d3, d4, d5, d6, d7⟩ := Own.cs8 HY.out;clear HII
   go_wp2_with ((with_reducible refine gate_builtin (b := .append) (xs := #[.tmp 34, .tmp 36]) rfl ?_); at_builtin; refine Kd.R_append itemK (w0 := w2) w2.heap.size rfl (.tmp 34) (.tmp 36) 41 77 (.agg #[.string ByteArray.empty, .int .i64 0, .int .u32 0, .int .u32 0, .int .u32 0, .int .i64 0, .int .i64 0, .string ByteArray.empty]) 72 rfl Tryz.underlying41 infoItem rfl (by decide) (by decide) (.slice Av nx.length cv) nx (y0, y1, y2, y3, y4, y5, y6, y7) [.string y0, .int .i64 y1, .int .u32 y2, .int .u32 y3, .int .u32 y4, .int .i64 y5, .int .i64 y6, .string y7] (fun _ => True) (fun _ => False) rfl (by first | rfl | (simp; done) | (simp; rfl)) ?aP (fun _ hk => hk.elim) ?aF ?aO ?aB ?aS ?aL ?_; skip)
   case aP => exact itemK_M _ _ _ (y0, y1, y2, y3, y4, y5, y6, y7)
   case aB => exact HW2.out
   case aF => exact (fun _ _ => trivial)
   case aO => exact HO2.out
   case aS => exact HW2.out.size
   case aL => first | omega | (simp; done) | (simp; omega)
   intro va w5 ho hb5 hg5 hat5;have HO5 := Hi ho;have HW5 := Hi hb5;clear ho hb5 hg5 hat5;go_wp2;go_roundw
   case rel => exact ⟨j + 1, true, nx ++ [(y0, y1, y2, y3, y4, y5, y6, y7)], by omega, by rw [List.length_append, List.length_singleton]; omega, by go_num, rfl, HS1, HO5, HW5⟩
   case measure => simp [intOf]; omega
  | false =>
   have d0 : (wr.alloc (.cells #[.string y0, .int .i64 y1, .int .u32 y2, .int .u32 y3, .int .u32 y4, .int .i64 y5, .int .i64 y6, .string y7] 77)).cell? ⟨wr.heap.size, 0, none⟩ = some (.string y0) := by rw [cell_of HY.out]; rfl
   have hlw : wr.heap.size < (wr.alloc (.cells #[.string y0, .int .i64 y1, .int .u32 y2, .int .u32 y3, .int .u32 y4, .int .i64 y5, .int .i64 y6, .string y7] 77)).heap.size := by simp
   go_wp2_with fail
   generalize (wr.alloc (.cells #[.string y0, .int .i64 y1, .int .u32 y2, .int .u32 y3, .int .u32 y4, .int .i64 y5, .int .i64 y6, .string y7] 77)) = wa at *;generalize wr.heap.size = b2 at *;clear d0;refine (rorder_next (w := wa) (Hi (Below.refl _ _)) s y0 hp hyz).mono ?_;rintro e w3 ⟨rfl, hb⟩;have HY3 := Hi (Own.kp hb.out HY.out);have HN3 := Hi (Own.kp hb.out HN2.out);have HW3 := Hi (below_next HW2.out hb.out);have HO3 := Hi (Kd.R_below HO2.out hb.out);have hl3 : b2 < w3.heap.size := Nat.lt_of_lt_of_le hlw hb.out.size;clear hb HY HN2 HW2 HO2
   by_cases hlo : orderT s y0 < 0
   ·
    have HS1 : Hid ((nx ++ [(s, kd, mo, ui, gi, mt, at_, da), (y0, y1, y2, y3, y4, y5, y6, y7)]) ++ contR true (s, kd, mo, ui, gi, mt, at_, da) (o.drop (j + 1)) = S) := Hi (by
     rw [← HII.out];unfold contR;rw [if_pos rfl, if_neg (by simp), ins_lt (x := (s, kd, mo, ui, gi, mt, at_, da)) (y := (y0, y1, y2, y3, y4, y5, y6, y7)) hlo]
     simp)
    clear HII;generalize orderT s y0 = r at *;obtain ⟨n0, n1, n2, n3, n4, n5, n6⟩ := Own.cs7 HN3.out
    go_wp2_with ((with_reducible refine gate_builtin (b := .append) (xs := #[.tmp 28, .tmp 32]) rfl ?_); at_builtin; refine Kd.R_append itemK (w0 := w2) w2.heap.size rfl (.tmp 28) (.tmp 32) 41 77 (.agg #[.string ByteArray.empty, .int .i64 0, .int .u32 0, .int .u32 0, .int .u32 0, .int .i64 0, .int .i64 0, .string ByteArray.empty]) 72 rfl Tryz.underlying41 infoItem rfl (by decide) (by decide) (.slice Av nx.length cv) nx (s, kd, mo, ui, gi, mt, at_, da) [.string s, .int .i64 kd, .int .u32 mo, .int .u32 ui, .int .u32 gi, .int .i64 mt, .int .i64 at_, .string da] (fun _ => True) (fun _ => False) rfl (by first | rfl | (simp; done) | (simp; rfl)) ?aP (fun _ hk => hk.elim) ?aF ?aO ?aB ?aS ?aL ?_; skip)
    case aP => exact itemK_M _ _ _ (s, kd, mo, ui, gi, mt, at_, da)
    case aB => exact HW3.out
    case aF => exact (fun _ _ => trivial)
    case aO => exact HO3.out
    case aS => exact HW3.out.size
    case aL => first | omega | (simp; done) | (simp; omega)
    intro va w5 ho hb5 hg5 hat5;have HO5 := Hi ho;have HW5 := Hi hb5;have HY5 := Hi ((hg5.block b2 hl3 (fun e => by have := HNE.out b2 e.symm; omega)).trans HY3.out);obtain ⟨d0, d1, d2, d3, d4, d5, d6, d7⟩ := Own.cs8 HY5.out;clear ho hb5 hg5 hat5
    go_wp2_with ((with_reducible refine gate_builtin (b := .append) (xs := #[.tmp 34, .tmp 36]) rfl ?_); at_builtin; refine Kd.R_append itemK (w0 := w2) w2.heap.size rfl (.tmp 34) (.tmp 36) 41 77 (.agg #[.string ByteArray.empty, .int .i64 0, .int .u32 0, .int .u32 0, .int .u32 0, .int .i64 0, .int .i64 0, .string ByteArray.empty]) 72 rfl Tryz.underlying41 infoItem rfl (by decide) (by decide) va (nx ++ [(s, kd, mo, ui, gi, mt, at_, da)]) (y0, y1, y2, y3, y4, y5, y6, y7) [.string y0, .int .i64 y1, .int .u32 y2, .int .u32 y3, .int .u32 y4, .int .i64 y5, .int .i64 y6, .string y7] (fun _ => True) (fun _ => False) rfl (by first | rfl | (simp; done) | (simp; rfl)) ?aP (fun _ hk => hk.elim) ?aF ?aO ?aB ?aS ?aL ?_; skip)
    case aP => exact itemK_M _ _ _ (y0, y1, y2, y3, y4, y5, y6, y7)
    case aB => exact HW5.out
    case aF => exact (fun _ _ => trivial)
    case aO => exact HO5.out
    case aS => exact HW5.out.size
    case aL => first | omega | (simp; done) | (simp; omega)
    intro vb w6 ho hb5 hg5 hat5;have HO6 := Hi ho;have HW6 := Hi hb5;clear ho hb5 hg5 hat5;go_wp2;go_roundw
    case rel => exact ⟨j + 1, true, nx ++ [(s, kd, mo, ui, gi, mt, at_, da), (y0, y1, y2, y3, y4, y5, y6, y7)], by omega, by simp; omega, by go_num, rfl, HS1, HO6, HW6⟩
    case measure => simp [intOf]; omega
   have HS1 : Hid ((nx ++ [(y0, y1, y2, y3, y4, y5, y6, y7)]) ++ contR false (s, kd, mo, ui, gi, mt, at_, da) (o.drop (j + 1)) = S) := Hi (by
    rw [← HII.out];unfold contR;rw [if_neg (by simp), if_neg (by simp), ins_ge (x := (s, kd, mo, ui, gi, mt, at_, da)) (y := (y0, y1, y2, y3, y4, y5, y6, y7)) hlo]
    simp)
   clear HII;generalize orderT s y0 = r at *;obtain ⟨d0, d1, d2, d3, d4, d5, d6, d7⟩ := Own.cs8 HY3.out
   go_wp2_with ((with_reducible refine gate_builtin (b := .append) (xs := #[.tmp 34, .tmp 36]) rfl ?_); at_builtin; refine Kd.R_append itemK (w0 := w2) w2.heap.size rfl (.tmp 34) (.tmp 36) 41 77 (.agg #[.string ByteArray.empty, .int .i64 0, .int .u32 0, .int .u32 0, .int .u32 0, .int .i64 0, .int .i64 0, .string ByteArray.empty]) 72 rfl Tryz.underlying41 infoItem rfl (by decide) (by decide) (.slice Av nx.length cv) nx (y0, y1, y2, y3, y4, y5, y6, y7) [.string y0, .int .i64 y1, .int .u32 y2, .int .u32 y3, .int .u32 y4, .int .i64 y5, .int .i64 y6, .string y7] (fun _ => True) (fun _ => False) rfl (by first | rfl | (simp; done) | (simp; rfl)) ?aP (fun _ hk => hk.elim) ?aF ?aO ?aB ?aS ?aL ?_; skip)
   case aP => exact itemK_M _ _ _ (y0, y1, y2, y3, y4, y5, y6, y7)
   case aB => exact HW3.out
   case aF => exact (fun _ _ => trivial)
   case aO => exact HO3.out
   case aS => exact HW3.out.size
   case aL => first | omega | (simp; done) | (simp; omega)
   intro va w5 ho hb5 hg5 hat5;have HO5 := Hi ho;have HW5 := Hi hb5;clear ho hb5 hg5 hat5;go_wp2;go_roundw
   case rel => exact ⟨j + 1, false, nx ++ [(y0, y1, y2, y3, y4, y5, y6, y7)], by omega, by rw [List.length_append, List.length_singleton]; omega, by go_num, rfl, HS1, HO5, HW5⟩
   case measure => simp [intOf]; omega
 have HII : Hid (nx ++ contR d (s, kd, mo, ui, gi, mt, at_, da) [] = S) := Hi (by rw [← HI.out, List.drop_of_length_le (by omega)]);clear HI;have HBE : Hid (Below bn W wr) := Hi (by subst hbn; exact below_next HB.out HW.out)
 cases d with
 | true =>
  have hS2 : nx = S := by rw [← HII.out]; unfold contR; rw [if_pos rfl, List.append_nil]
  subst hS2;have HOE := Hi (Kd.R_lower HO.out (show bn ≤ w2.heap.size by rw [← hbn]; exact HB.out.size));clear HII;go_wp2;go_ret;exact ⟨_, rfl, by rw [hbn]; exact HOE.out, by rw [hbn]; exact HBE.out⟩
 | false =>
  have hS2 : nx ++ [(s, kd, mo, ui, gi, mt, at_, da)] = S := by rw [← HII.out]; unfold contR; rw [if_neg (by simp), ins_nil]
  subst hS2;clear HII;obtain ⟨n0, n1, n2, n3, n4, n5, n6⟩ := Own.cs7 HN1.out
  go_wp2_with ((with_reducible refine gate_builtin (b := .append) (xs := #[.tmp 41, .tmp 45]) rfl ?_); at_builtin; refine Kd.R_append itemK (w0 := w2) w2.heap.size rfl (.tmp 41) (.tmp 45) 41 77 (.agg #[.string ByteArray.empty, .int .i64 0, .int .u32 0, .int .u32 0, .int .u32 0, .int .i64 0, .int .i64 0, .string ByteArray.empty]) 72 rfl Tryz.underlying41 infoItem rfl (by decide) (by decide) (.slice Av nx.length cv) nx (s, kd, mo, ui, gi, mt, at_, da) [.string s, .int .i64 kd, .int .u32 mo, .int .u32 ui, .int .u32 gi, .int .i64 mt, .int .i64 at_, .string da] (fun _ => True) (fun _ => False) rfl (by first | rfl | (simp; done) | (simp; rfl)) ?aP (fun _ hk => hk.elim) ?aF ?aO ?aB ?aS ?aL ?_; skip)
  case aP => exact itemK_M _ _ _ (s, kd, mo, ui, gi, mt, at_, da)
  case aB => exact HW.out
  case aF => exact (fun _ _ => trivial)
  case aO => exact HO.out
  case aS => exact HW.out.size
  case aL => first | omega | (simp; done) | (simp; omega)
  intro va w5 ho hb5 hg5 hat5;have HO5 := Hi ho;have HW5 := Hi hb5;clear ho hb5 hg5 hat5;have HBE5 : Hid (Below bn W w5) := Hi (by subst hbn; exact below_next HB.out HW5.out);have HOE := Hi (Kd.R_lower HO5.out (show bn ≤ w2.heap.size by rw [← hbn]; exact HB.out.size));go_wp2;go_ret;exact ⟨_, rfl, by rw [hbn]; exact HOE.out, by rw [hbn]; exact HBE5.out⟩
end Go.Proofs.YtibmfjacfbpfgaaGreatDoor.TreeRef2
