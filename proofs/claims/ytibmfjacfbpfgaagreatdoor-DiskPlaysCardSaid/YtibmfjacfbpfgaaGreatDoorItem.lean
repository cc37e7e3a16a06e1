/- Items: a path and a node, in memory; == of two; are two rows the same. -/
import Derived.Test.YtibmfjacfbpfgaaGreatDoorProg
import Derived.Test.YtibmfjacfbpfgaaGreatDoorPW
import Derived.WalkKit
import Derived.Lib.Hide
import Derived.Deep.QuietTactic
import Derived.Deep.LoopGhost
import Derived.BigQuiet
import Derived.DataElems
import Derived.Laws.Rows
set_option linter.unusedVariables false
set_option linter.unusedSimpArgs false
namespace Go.Proofs.YtibmfjacfbpfgaaGreatDoor.Item
open Go.RowKit YtibmfjacfbpfgaaGreatDoorW PrintWords PrintLast PrintMore
abbrev It := ByteArray × Int × Int × Int × Int × Int × Int × ByteArray
instance dec2 : DecidableEq (Int × Int × ByteArray) := inferInstance
instance dec3 : DecidableEq (Int × Int × Int × ByteArray) := fun a b => @instDecidableEqProd _ _ inferInstance dec2 a b
instance dec4 : DecidableEq (Int × Int × Int × Int × ByteArray) := fun a b => @instDecidableEqProd _ _ inferInstance dec3 a b
instance dec5 : DecidableEq (Int × Int × Int × Int × Int × ByteArray) := fun a b => @instDecidableEqProd _ _ inferInstance dec4 a b
instance dec6 : DecidableEq (Int × Int × Int × Int × Int × Int × ByteArray) := fun a b => @instDecidableEqProd _ _ inferInstance dec5 a b
instance decItem : DecidableEq It := fun a b => @instDecidableEqProd _ _ inferInstance dec6 a b
abbrev nodeK : Kd (Int × Int × Int × Int × Int × Int × ByteArray) := Kd.pair (Kd.int .i64) (Kd.pair (Kd.int .u32) (Kd.pair (Kd.int .u32) (Kd.pair (Kd.int .u32) (Kd.pair (Kd.int .i64) (Kd.pair (Kd.int .i64) Kd.string)))))
abbrev itemK : Kd It := Kd.pair Kd.string nodeK
abbrev cellsI (x : It) : List Value := [.string x.1, .int .i64 x.2.1, .int .u32 x.2.2.1, .int .u32 x.2.2.2.1, .int .u32 x.2.2.2.2.1, .int .i64 x.2.2.2.2.2.1, .int .i64 x.2.2.2.2.2.2.1, .string x.2.2.2.2.2.2.2]
abbrev ItemC (w : World) (A : Option Addr) (l : List It) : Prop := itemK.C w A l.length l
theorem itemK_K {w : World} {x : It} {cs : List Value} (h : itemK.K w x cs) : cs = cellsI x := by
 obtain ⟨a0, r0, rfl, h0, a1, r1, rfl, h1, a2, r2, rfl, h2, a3, r3, rfl, h3, a4, r4, rfl, h4, a5, r5, rfl, h5, a6, a7, rfl, h6, h7⟩ := h;have e0 : a0 = [Value.string x.1] := h0;have e1 : a1 = [Value.int .i64 x.2.1] := h1;have e2 : a2 = [Value.int .u32 x.2.2.1] := h2;have e3 : a3 = [Value.int .u32 x.2.2.2.1] := h3;have e4 : a4 = [Value.int .u32 x.2.2.2.2.1] := h4;have e5 : a5 = [Value.int .i64 x.2.2.2.2.2.1] := h5;have e6 : a6 = [Value.int .i64 x.2.2.2.2.2.2.1] := h6;have e7 : a7 = [Value.string x.2.2.2.2.2.2.2] := h7;subst e0 e1 e2 e3 e4 e5 e6 e7;rfl
theorem itemK_M (w : World) (base : Nat) (ok : Nat → Prop) (x : It) : itemK.M w base ok x (cellsI x) :=
 ⟨[_], _, rfl, rfl, [_], _, rfl, rfl, [_], _, rfl, rfl, [_], _, rfl, rfl, [_], _, rfl, rfl, [_], _, rfl, rfl, [_], [_], rfl, rfl, rfl⟩
theorem itemK_mk (w : World) (x : It) : itemK.K w x (cellsI x) := itemK.K_of_M (itemK_M w 0 (fun _ => True) x)
theorem infoItem : (Tryz.prog.info? 77).map (fun i => (i.zero, i.size, i.bytes)) = some (some (.agg #[.string ByteArray.empty, .int .i64 0, .int .u32 0, .int .u32 0, .int .u32 0, .int .i64 0, .int .i64 0, .string ByteArray.empty]), 8, 72) := by kernel_rfl
theorem item_at {w : World} {A : Option Addr} {l : List It} (h : ItemC w A l) {k : Nat} (hk : k < l.length) :
  ∃ ad, A = some ad ∧ w.cell? (ad.add (k * 8)) = some (.string l[k].1) ∧ w.cell? ⟨(ad.add (k * 8)).block, (ad.add (k * 8)).off + 1, none⟩ = some (.int .i64 l[k].2.1) ∧ w.cell? ⟨(ad.add (k * 8)).block, (ad.add (k * 8)).off + 2, none⟩ = some (.int .u32 l[k].2.2.1) ∧ w.cell? ⟨(ad.add (k * 8)).block, (ad.add (k * 8)).off + 3, none⟩ = some (.int .u32 l[k].2.2.2.1) ∧ w.cell? ⟨(ad.add (k * 8)).block, (ad.add (k * 8)).off + 4, none⟩ = some (.int .u32 l[k].2.2.2.2.1) ∧ w.cell? ⟨(ad.add (k * 8)).block, (ad.add (k * 8)).off + 5, none⟩ = some (.int .i64 l[k].2.2.2.2.2.1) ∧ w.cell? ⟨(ad.add (k * 8)).block, (ad.add (k * 8)).off + 6, none⟩ = some (.int .i64 l[k].2.2.2.2.2.2.1) ∧ w.cell? ⟨(ad.add (k * 8)).block, (ad.add (k * 8)).off + 7, none⟩ = some (.string l[k].2.2.2.2.2.2.2) := by
 obtain ⟨ad, e, hc⟩ := h.2.2 (by omega);obtain ⟨cs, hl, hK, hcell⟩ := hc k _ (List.getElem?_eq_getElem hk);have := itemK_K hK;subst this;refine ⟨ad, e, hcell 0 _ rfl, ?_, ?_, ?_, ?_, ?_, ?_, ?_⟩
 ·
  have h := hcell 1 _ rfl;rw [← Addr.add_add] at h;exact h
 ·
  have h := hcell 2 _ rfl;rw [← Addr.add_add] at h;exact h
 ·
  have h := hcell 3 _ rfl;rw [← Addr.add_add] at h;exact h
 ·
  have h := hcell 4 _ rfl;rw [← Addr.add_add] at h;exact h
 ·
  have h := hcell 5 _ rfl;rw [← Addr.add_add] at h;exact h
 ·
  have h := hcell 6 _ rfl;rw [← Addr.add_add] at h;exact h
 have h := hcell 7 _ rfl;rw [← Addr.add_add] at h;exact h
theorem eqNode (d : Nat) (w : World) (x0 y0 : Int) (x1 y1 : Int) (x2 y2 : Int) (x3 y3 : Int) (x4 y4 : Int) (x5 y5 : Int) (x6 y6 : ByteArray) :
  (Op.equalIn (d + 2) 34 (.agg #[.int .i64 x0, .int .u32 x1, .int .u32 x2, .int .u32 x3, .int .i64 x4, .int .i64 x5, .string x6]) (.agg #[.int .i64 y0, .int .u32 y1, .int .u32 y2, .int .u32 y3, .int .i64 y4, .int .i64 y5, .string y6])).run Tryz.prog w = .ok (x0 == y0 && (x1 == y1 && (x2 == y2 && (x3 == y3 && (x4 == y4 && (x5 == y5 && (x6.toList == y6.toList))))))) w := by
 refine eqA_of Tryz.underlying34 (by kernel_rfl) ?_;refine eqf_cons (by rfl) (by go_simp; rfl) (by go_simp; rfl) (by go_simp) ?_;refine eqf_cons (by rfl) (by go_simp; rfl) (by go_simp; rfl) (by go_simp) ?_;refine eqf_cons (by rfl) (by go_simp; rfl) (by go_simp; rfl) (by go_simp) ?_;refine eqf_cons (by rfl) (by go_simp; rfl) (by go_simp; rfl) (by go_simp) ?_;refine eqf_cons (by rfl) (by go_simp; rfl) (by go_simp; rfl) (by go_simp) ?_;refine eqf_cons (by rfl) (by go_simp; rfl) (by go_simp; rfl) (by go_simp) ?_;exact eqf_last (by rfl) (by go_simp; rfl) (by go_simp; rfl) (by go_simp)
theorem eqItem (d : Nat) (w : World) (x0 y0 : ByteArray) (x1 y1 : Int) (x2 y2 : Int) (x3 y3 : Int) (x4 y4 : Int) (x5 y5 : Int) (x6 y6 : Int) (x7 y7 : ByteArray) :
  (Op.equalIn (d + 3) 77 (.agg #[.string x0, .int .i64 x1, .int .u32 x2, .int .u32 x3, .int .u32 x4, .int .i64 x5, .int .i64 x6, .string x7]) (.agg #[.string y0, .int .i64 y1, .int .u32 y2, .int .u32 y3, .int .u32 y4, .int .i64 y5, .int .i64 y6, .string y7])).run Tryz.prog w = .ok (x0.toList == y0.toList && ((x1 == y1 && (x2 == y2 && (x3 == y3 && (x4 == y4 && (x5 == y5 && (x6 == y6 && (x7.toList == y7.toList))))))))) w := by
 refine eqA_of Tryz.underlying77 (by kernel_rfl) ?_;refine eqf_cons (by rfl) (by go_simp; rfl) (by go_simp; rfl) (by go_simp) ?_;exact eqf_last (by rfl) (by go_simp) (by go_simp) (eqNode (d + 0) w _ _ _ _ _ _ _ _ _ _ _ _ _ _)
theorem toList_inj (a b : ByteArray) : (a.toList == b.toList) = decide (a = b) := by
 by_cases h : a = b
 ·
  subst h; simp
 rw [decide_eq_false h];refine beq_eq_false_iff_ne.2 (fun e => h ?_);rw [ByteArray.toList_eq, ByteArray.toList_eq] at e;obtain ⟨⟨x⟩⟩ := a;obtain ⟨⟨y⟩⟩ := b;simp at e;rw [e]
theorem beq_dec (x y : Int) : (x == y) = decide (x = y) := by
 by_cases h : x = y
 ·
  subst h; simp
 rw [decide_eq_false h]; exact beq_eq_false_iff_ne.2 h
theorem item_eq (x y : It) : (x.1.toList == y.1.toList && (x.2.1 == y.2.1 && (x.2.2.1 == y.2.2.1 && (x.2.2.2.1 == y.2.2.2.1 && (x.2.2.2.2.1 == y.2.2.2.2.1 && (x.2.2.2.2.2.1 == y.2.2.2.2.2.1 && (x.2.2.2.2.2.2.1 == y.2.2.2.2.2.2.1 && (x.2.2.2.2.2.2.2.toList == y.2.2.2.2.2.2.2.toList)))))))) = decide (x = y) := by
 obtain ⟨x0, x1, x2, x3, x4, x5, x6, x7⟩ := x;obtain ⟨y0, y1, y2, y3, y4, y5, y6, y7⟩ := y;simp only [toList_inj, beq_dec, Prod.mk.injEq, Bool.decide_and]
theorem drop_same {l m : List It} (hlm : l.length = m.length) {k : Nat} (h : k < l.length) : decide (l.drop k = m.drop k) = (decide (l[k] = m[k]) && decide (l.drop (k + 1) = m.drop (k + 1))) := by
 rw [List.drop_eq_getElem_cons h, List.drop_eq_getElem_cons (show k < m.length by omega)];simp only [List.cons.injEq, Bool.decide_and]
set_option maxHeartbeats 2000000 in
theorem same_any (l m : List It) (A : Option Addr) (c : Nat) (B : Option Addr) (d : Nat) (w : World) (hl : ItemC w A l) (hm : ItemC w B m) :
  Calls Tryz.prog 18 #[.slice A l.length c, .slice B m.length d] w fun e w' => e = .returned (.bool (decide (l = m))) ∧ Below w.heap.size w w' := by
 have HL := Lib.hid hl;have HM := Lib.hid hm;have l1 := hl.2.1;clear hl hm;obtain ⟨R, hR⟩ : ∃ R, R = decide (l = m) := ⟨_, rfl⟩;have HR0 := Lib.hid (show decide (l.drop 0 = m.drop 0) = R from hR.symm);rw [← hR];clear hR
 by_cases hlm : l.length = m.length
 ·
  have HLM := Lib.hid hlm;rw [← hlm];have hmi : ((l.length : Int) != (l.length : Int)) = false := by simp
  clear hlm;go_enter Tryz.func18, Tryz.ntmps18;go_wp2
  go_loopw [13] (fun i wr => ∃ k : Nat, k ≤ l.length ∧ i = .int .i64 k ∧ Hid (decide (l.drop k = m.drop k) = R) ∧ Hid (Below w.heap.size w wr)) (fun i _ => l.length - (intOf i).toNat)
  case atStart => exact ⟨0, by omega, rfl, HR0, Lib.hid (Below.refl _ _)⟩
  clear HR0;obtain ⟨k, hk, rfl, HR, HB⟩ := hrel
  by_cases hlt : k < l.length
  ·
   obtain ⟨ad, rfl, e0, e1, e2, e3, e4, e5, e6, e7⟩ := item_at (Kd.C_below HL.out HB.out) hlt;have hlt2 : k < m.length := by rw [← HLM.out]; exact hlt
   obtain ⟨bd, rfl, f0, f1, f2, f3, f4, f5, f6, f7⟩ := item_at (Kd.C_below HM.out HB.out) hlt2;have hltI : (k : Int) < l.length := by omega
   have hR := HR.out;rw [drop_same HLM.out hlt] at hR;have hq := item_eq l[k] m[k];generalize l[k] = x at *;generalize m[k] = y at *;obtain ⟨x0, x1, x2, x3, x4, x5, x6, x7⟩ := x;obtain ⟨y0, y1, y2, y3, y4, y5, y6, y7⟩ := y;simp only at e0 e1 e2 e3 e4 e5 e6 e7 f0 f1 f2 f3 f4 f5 f6 f7 hq;have he := fun (dd : Nat) (W : World) => eqItem dd W x0 y0 x1 y1 x2 y2 x3 y3 x4 y4 x5 y5 x6 y6 x7 y7
   generalize decide ((x0, x1, x2, x3, x4, x5, x6, x7) = (y0, y1, y2, y3, y4, y5, y6, y7)) = q at *;rw [hq] at he;clear hq HR
   cases q with
   | false =>
    have HS := Lib.hid (show R = false by rw [← hR]; rfl);clear hR;go_wp2
    go_quiet (fail)
    have HB1 := Lib.hid (pw_below_drewN HB.out nq);generalize wr.drewN nq = w5 at *;go_wp2;go_ret;exact ⟨by rw [HS.out]; rfl, HB1.out⟩
   | true =>
    have HS := Lib.hid (show decide (l.drop (k + 1) = m.drop (k + 1)) = R by rw [← hR]; simp);clear hR;go_wp2
    go_quiet (fail)
    have HB1 := Lib.hid (pw_below_drewN HB.out nq);generalize wr.drewN nq = w5 at *;go_wp2;go_roundw
    case rel => exact ⟨k + 1, by omega, by go_num, HS, HB1⟩
    case measure => simp [intOf]; omega
  have HS := Lib.hid (show R = true by rw [← HR.out, List.drop_of_length_le (by omega), List.drop_of_length_le (by rw [← HLM.out]; omega)]; simp);go_wp2;go_ret;exact ⟨by rw [HS.out]; rfl, HB.out⟩
 have HS := Lib.hid (show R = false by rw [← HR0.out]; exact decide_eq_false (fun e => hlm (by have := congrArg List.length e; simpa using this)));have hmi : ((l.length : Int) != (m.length : Int)) = true := by simp; omega
 have hmj : ((l.length : Int) == (m.length : Int)) = false := beq_eq_false_iff_ne.2 (by omega);go_enter Tryz.func18, Tryz.ntmps18;go_wp2;go_ret;exact ⟨by rw [HS.out]; rfl, Below.refl _ _⟩
end Go.Proofs.YtibmfjacfbpfgaaGreatDoor.Item
