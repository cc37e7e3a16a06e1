/- The walks of package name: safe, Parts, Order, Check. -/
import Derived.Test.YtibmfjacfbpfgaaGreatDoorNameA
import Derived.Test.YtibmfjacfbpfgaaGreatDoorShelf
import Derived.Deep.LoopGhost
import Derived.Lib.IndexAny
set_option maxHeartbeats 32000000
set_option linter.unusedVariables false
set_option linter.unusedSimpArgs false
namespace Go.Proofs.YtibmfjacfbpfgaaGreatDoor.NameWalk
open Go.RowKit YtibmfjacfbpfgaaGreatDoorW PrintWords PrintLast NameLaw NameCmp
structure Glob (w : World) : Prop where mk :: (tabs : Lib.Utf8Tabs 0 1 w) (max : ∃ m, w.cell? ⟨2, 0, none⟩ = some (.int .i64 m))
theorem Glob.below {w w1 : World} (h : Glob w) (hb : Below w.heap.size w w1) : Glob w1 :=
 ⟨⟨fun c hc => pw_cell_below hb (h.tabs.1 c hc), fun i hi => ⟨pw_cell_below hb (h.tabs.2 i hi).1, pw_cell_below hb (h.tabs.2 i hi).2⟩⟩, by obtain ⟨m, hm⟩ := h.max; exact ⟨m, pw_cell_below hb hm⟩⟩
theorem below_of {w w1 w2 : World} (h : Below w.heap.size w w1) (k : Drawn0 w1 w2) : Below w.heap.size w w2 := h.trans (k.below.mono h.size)
theorem below_next {w w1 w2 : World} (h : Below w.heap.size w w1) (k : Below w1.heap.size w1 w2) : Below w.heap.size w w2 := h.trans (k.mono h.size)
def slash : ByteArray := ⟨#[47]⟩
def splitT (p : ByteArray) : List ByteArray := (splitL p.data.toList).map fun l => ⟨l.toArray⟩
def partsT (p : ByteArray) : List ByteArray := (partsL p.data.toList).map fun l => ⟨l.toArray⟩
theorem splitT_data (p : ByteArray) : (splitT p).map (·.data.toList) = splitL p.data.toList := by
 unfold splitT; rw [List.map_map]; conv => rhs; rw [← List.map_id (splitL p.data.toList)]
 rfl
theorem partsT_data (p : ByteArray) : (partsT p).map (·.data.toList) = partsL p.data.toList := by
 unfold partsT; rw [List.map_map]; conv => rhs; rw [← List.map_id (partsL p.data.toList)]
 rfl
theorem splitB_slash (p : ByteArray) : Lib.splitB slash 0 (Lib.countB p slash) p = splitT p := by
 have h := Lib.splitB_data slash 0 (Lib.countB p slash) p;have h2 : Lib.splitK [47] 0 (Lib.count p.data.toList [47]) p.data.toList = splitL p.data.toList := split_one p.data.toList;have h3 : (Lib.splitB slash 0 (Lib.countB p slash) p).map (·.data.toList) = splitL p.data.toList := h.trans h2;unfold splitT;rw [← h3, List.map_map]
 conv => lhs; rw [← List.map_id (Lib.splitB slash 0 (Lib.countB p slash) p)]
 rfl
theorem countB_slash (p : ByteArray) : Lib.countB p slash + 1 = (splitT p).length := by
 rw [← splitB_slash];exact (Lib.splitB_all slash (by decide) 0 _ p rfl).symm
theorem split_any (p : ByteArray) (w : World) (hg : Glob w) (hp : p.size < 4294967281) :
  Calls Tryz.prog 88 #[.string p, .string ⟨#[47]⟩] w fun e w' => e = .returned (.slice (some ⟨w.heap.size, 0, none⟩) (splitT p).length (splitT p).length) ∧ w' = w.alloc (.cells ((splitT p).map Value.string).toArray 9) := by
 obtain ⟨m, hm⟩ := hg.max;have h := Tryz.strings_Split p slash m w hp hm (by decide);rw [countB_slash, splitB_slash] at h;exact h
theorem strs_new (w : World) (l : List ByteArray) (t : TypeId) (hl : l.length ≤ 9223372036854775807) : StrsAt (w.alloc (.cells (l.map Value.string).toArray t)) (some ⟨w.heap.size, 0, none⟩) l :=
 ⟨hl, fun _ => ⟨_, rfl, fun j h => by
  rw [add_plain, cell_of_row _ _ _ _ _ _ (heap_alloc_new w _)]
  simp [List.getElem?_eq_getElem h]⟩⟩
theorem splitL_length (l : List UInt8) : (splitL l).length ≤ l.length + 1 := by
 induction l with
 | nil => simp [splitL]
 | cons c l ih =>
  rw [splitL_cons]
  split
  ·
   simp; omega
  cases h : splitL l with
  | nil => simp
  | cons p ps => rw [h] at ih; simp at ih ⊢; omega
theorem splitT_length (p : ByteArray) : (splitT p).length ≤ p.size + 1 := by
 unfold splitT;rw [List.length_map];have := splitL_length p.data.toList;rw [Lib.size_eq]; exact this
def PartsPost (p : ByteArray) (w : World) (e : Ending) (w' : World) : Prop :=
 ∃ A c, e = .returned (.slice A (partsT p).length c) ∧ StrsAt w' A (partsT p) ∧ Below w.heap.size w w'
theorem parts_any (p : ByteArray) (w : World) (hg : Glob w) (hp : p.size < 4294967281) : Calls Tryz.prog 56 #[.string p] w (PartsPost p w) := by
 by_cases h0 : p.toList = []
 ·
  have hz : partsT p = [] := by
   unfold partsT partsL;rw [if_pos (by rw [← Lib.toList_data]; exact h0)]; rfl
  have HZ := Lib.hid hz;clear hz;go_enter Tryz.func56, Tryz.ntmps56;go_wp2;go_ret;exact ⟨none, 0, by rw [HZ.out]; rfl, by rw [HZ.out]; exact ⟨by simp, fun h => absurd h (by simp)⟩, Below.refl _ _⟩
 have hz : partsT p = splitT p := by
  unfold partsT partsL splitT;rw [if_neg (by rw [← Lib.toList_data]; exact h0)]
 have HZ := Lib.hid hz;have HL := Lib.hid (splitT_length p);have HG := Lib.hid hg;have hd : (!p.toList.isEmpty) = true := by simp [h0]
 have hd2 : p.toList.isEmpty = false := by simp [h0]
 clear hz hg;go_enter Tryz.func56, Tryz.ntmps56
 go_wp2_with (go_at_call 88; refine (split_any _ _ HG.out (by omega)).mono ?_; rintro e w' ⟨rfl, rfl⟩)
 go_ret;exact ⟨_, _, by rw [HZ.out]; rfl, by rw [HZ.out]; exact strs_new _ _ _ (by have := HL.out; omega), (Below.refl _ _).alloc (Nat.le_refl _) _⟩
def orderT (a b : ByteArray) : Int := orderL a.data.toList b.data.toList
theorem order_any (a b : ByteArray) (w : World) (hg : Glob w) (ha : a.size < 4294967281) (hb : b.size < 4294967281) :
  Calls Tryz.prog 83 #[.string a, .string b] w fun e w' => e = .returned (.int .i64 (orderT a b)) ∧ Below w.heap.size w w' := by
 have hR : orderT a b = cmpPB (partsT a) (partsT b) := by
  rw [cmpPB_data, partsT_data, partsT_data]; rfl
 rw [hR];have HG := Lib.hid hg;clear hg hR;go_enter Tryz.func83, Tryz.ntmps83
 go_wp2_with fail
 refine (parts_any a _ HG.out (by omega)).mono ?_;rintro e w1 ⟨A, c, rfl, hs1, hb1⟩;have HG1 := Lib.hid (HG.out.below hb1);have HS1 := Lib.hid hs1;have HB1 := Lib.hid hb1;clear hs1 hb1
 go_wp2_with fail
 refine (parts_any b _ HG1.out (by omega)).mono ?_;rintro e w2 ⟨B, d, rfl, hs2, hb2⟩;have HS1b := Lib.hid (HS1.out.below hb2);have HS2 := Lib.hid hs2;have HB2 := Lib.hid (below_next HB1.out hb2);clear hs2 hb2
 go_wp2_with fail
 refine (scompare_any A B c d _ _ _ HS1b.out HS2.out).mono ?_;rintro e w3 ⟨rfl, hd⟩;have HB3 := Lib.hid (below_of HB2.out hd);clear hd;go_wp2;go_ret;exact ⟨rfl, HB3.out⟩
def safeL (l : List UInt8) : Bool := l != [] && l != [46] && l != [46, 46]
theorem safe_any (x : ByteArray) (w : World) : Calls Tryz.prog 93 #[.string x] w fun e w' => e = .returned (.bool (safeL x.data.toList)) ∧ w = w' := by
 obtain ⟨R, hR⟩ : ∃ R, R = safeL x.toList := ⟨_, rfl⟩;have hR2 : safeL x.data.toList = R := by rw [hR, Lib.toList_data]
 rw [hR2];clear hR2;unfold safeL at hR
 by_cases h1 : x.toList = []
 ·
  have HR := Lib.hid (show R = false by rw [hR, h1]; rfl);clear hR;go_enter Tryz.func93, Tryz.ntmps93;go_wp2;go_ret;exact ⟨by rw [HR.out]; rfl, rfl⟩
 have q1 : (!x.toList.isEmpty) = true := by simp [h1]
 have q2 : x.toList.isEmpty = false := by simp [h1]
 by_cases h2 : x.toList = [46]
 ·
  have HR := Lib.hid (show R = false by rw [hR, h2]; rfl);clear hR h1 q1 q2;go_enter Tryz.func93, Tryz.ntmps93;go_wp2;go_ret;exact ⟨by rw [HR.out]; rfl, rfl⟩
 have q3 : (x.toList == [46]) = false := by rw [beq_eq_false_iff_ne]; exact h2
 have q4 : (x.toList != [46]) = true := by rw [bne_iff_ne]; exact h2
 by_cases h3 : x.toList = [46, 46]
 ·
  have HR := Lib.hid (show R = false by rw [hR, h3]; rfl);clear hR h1 q1 q2 h2 q3 q4;go_enter Tryz.func93, Tryz.ntmps93;go_wp2;go_ret;exact ⟨by rw [HR.out]; rfl, rfl⟩
 have q5 : (x.toList == [46, 46]) = false := by rw [beq_eq_false_iff_ne]; exact h3
 have q6 : (x.toList != [46, 46]) = true := by rw [bne_iff_ne]; exact h3
 have HR := Lib.hid (show R = true by rw [hR, bne_iff_ne.2 h1, q4, q6]; rfl);clear hR;go_enter Tryz.func93, Tryz.ntmps93;go_wp2;go_ret;exact ⟨by rw [HR.out]; rfl, rfl⟩
theorem unsafe_any (x : ByteArray) (w : World) : Calls Tryz.prog 92 #[.string x] w fun e w' => e = .returned (.bool (!safeL x.data.toList)) ∧ w = w' := by
 go_enter Tryz.func92, Tryz.ntmps92
 go_wp2_with (go_at_call 93; refine (safe_any _ _).mono ?_; rintro e w' ⟨rfl, rfl⟩)
 go_ret;exact ⟨rfl, rfl⟩
theorem long_any (x : ByteArray) (w : World) : Calls Tryz.prog 94 #[.string x] w fun e w' => e = .returned (.bool (decide (255 < x.size))) ∧ w = w' := by
 go_enter Tryz.func94, Tryz.ntmps94;go_wp2;go_ret;exact ⟨by simp; omega, rfl⟩
theorem any_drop {l : List ByteArray} (p : ByteArray → Bool) {k : Nat} (h : k < l.length) : (l.drop k).any p = (p l[k] || (l.drop (k + 1)).any p) := by
 rw [List.drop_eq_getElem_cons h]; rfl
def IndexPost (b : Bool) (w : World) (e : Ending) (w' : World) : Prop := ∃ i : Int, e = .returned (.int .i64 i) ∧ (decide (0 ≤ i) = b) ∧ Drawn0 w w'
theorem indexF_any (g : Nat) (p : ByteArray → Bool) (eg : ∀ args w, (callFunc g args).run Tryz.prog w = .ok (.enter g args) w) (hp : ∀ x w, Calls Tryz.prog g #[.string x] w fun e w' => e = .returned (.bool (p x)) ∧ w = w')
  (A : Option Addr) (c : Nat) (l : List ByteArray) (w : World) (hl : StrsAt w A l) :
  Calls Tryz.prog 126 #[.slice A l.length c, .func (.func g) #[] #[]] w (IndexPost (l.any p) w) := by
 have HL := Lib.hid hl.2;have l1 := hl.1;have HP := Lib.hid hp;clear hl hp;obtain ⟨R, hR⟩ : ∃ R, R = l.any p := ⟨_, rfl⟩;have HR0 := Lib.hid (show (l.drop 0).any p = R from hR.symm);rw [← hR];clear hR;go_enter Tryz.func126, Tryz.ntmps126;go_wp2
 go_loopw [8] (fun i wr => ∃ k : Nat, k ≤ l.length ∧ i = .int .i64 k ∧ Hid ((l.drop k).any p = R) ∧ Drawn0 w wr) (fun i _ => l.length - (intOf i).toNat)
 case atStart => exact ⟨0, by omega, rfl, HR0, Drawn0.refl _⟩
 obtain ⟨k, hk, rfl, HR, ⟨n, rfl⟩⟩ := hrel
 by_cases hlt : k < l.length
 ·
  obtain ⟨ad, rfl, hc⟩ := HL.out (by omega);have hc1 := hc k hlt;have hltI : (k : Int) < l.length := by omega
  have hs := any_drop p hlt;clear hc;have hpk := HP.out l[k]
  by_cases hz : p l[k] = true
  ·
   rw [hz, Bool.true_or] at hs;rw [hz] at hpk;have HS := Lib.hid hs;have HPK := Lib.hid hpk;clear hs hz hpk
   go_wp2_with (go_at_fn g; refine (HPK.out _).mono ?_; rintro e w' ⟨rfl, rfl⟩)
   go_ret;exact ⟨_, rfl, by rw [← HR.out, HS.out]; simp, by repeat (first | exact Drawn0.refl _ | apply Drawn0.step)⟩
  rw [Bool.eq_false_iff.2 hz, Bool.false_or] at hs;rw [Bool.eq_false_iff.2 hz] at hpk;have HS := Lib.hid hs;have HPK := Lib.hid hpk;clear hs hz hpk
  go_wp2_with (go_at_fn g; refine (HPK.out _).mono ?_; rintro e w' ⟨rfl, rfl⟩)
  go_roundw
  case rel => exact ⟨k + 1, by omega, by go_num, Lib.hid (by rw [← HS.out]; exact HR.out), by repeat (first | exact Drawn0.refl _ | apply Drawn0.step)⟩
  case measure => simp [intOf]; omega
 have HS := Lib.hid (show (l.drop k).any p = false by rw [List.drop_of_length_le (by omega)]; rfl);go_wp2;go_ret;exact ⟨-1, rfl, by rw [← HR.out, HS.out]; rfl, by repeat (first | exact Drawn0.refl _ | apply Drawn0.step)⟩
theorem containsF_any (g : Nat) (p : ByteArray → Bool) (eg : ∀ args w, (callFunc g args).run Tryz.prog w = .ok (.enter g args) w) (hp : ∀ x w, Calls Tryz.prog g #[.string x] w fun e w' => e = .returned (.bool (p x)) ∧ w = w')
  (A : Option Addr) (c : Nat) (l : List ByteArray) (w : World) (hl : StrsAt w A l) :
  Calls Tryz.prog 91 #[.slice A l.length c, .func (.func g) #[] #[]] w fun e w' => e = .returned (.bool (l.any p)) ∧ Drawn0 w w' := by
 have HI := Lib.hid (indexF_any g p eg hp A c l w hl);obtain ⟨R, hR⟩ : ∃ R, R = l.any p := ⟨_, rfl⟩;rw [← hR] at HI ⊢;clear hl hp eg hR;go_enter Tryz.func91, Tryz.ntmps91
 go_wp2_with (go_at_call 126; refine HI.out.mono ?_; rintro e w1 ⟨i, rfl, hi, ⟨n, rfl⟩⟩)
 go_ret;exact ⟨by simp, by repeat (first | exact Drawn0.refl _ | apply Drawn0.step)⟩
def cutT (s : ByteArray) : ByteArray := ⟨(Lib.trimSuffix s.data.toList [47]).toArray⟩
def isDir (s : ByteArray) : Bool := Lib.hasSuffix s.data.toList [47]
def badBytes (s : ByteArray) : Bool := Lib.containsAny s.data.toList [0, 92]
def badParts (s : ByteArray) : Bool := (splitT (cutT s)).any fun x => !safeL x.data.toList
def longParts (s : ByteArray) : Bool := (splitT (cutT s)).any fun x => decide (255 < x.size)
def AnyAt (s : ByteArray) : Prop := ∀ w : World, Glob w → Calls Tryz.prog 90 #[.string s, .string ⟨#[0, 92]⟩] w fun e w' => e = .returned (.bool (badBytes s)) ∧ Below w.heap.size w w'
theorem cutT_size (s : ByteArray) : (cutT s).size ≤ s.size := by
 rw [Lib.size_eq, Lib.size_eq]
 show (Lib.trimSuffix s.data.toList [47]).length ≤ _
 unfold Lib.trimSuffix
 split
 ·
  simp
 exact Nat.le_refl _
theorem cut_any (s : ByteArray) (w : World) (hs : s.size ≤ 9223372036854775807) : Calls Tryz.prog 87 #[.string s, .string ⟨#[47]⟩] w fun e w' => e = .returned (.tuple #[.string (cutT s), .bool (isDir s)]) ∧ w = w' :=
 (Tryz.strings_CutSuffix s ⟨#[47]⟩ w hs).mono fun _ _ h => ⟨h.1, h.2.symm⟩
def validT (s : ByteArray) : Bool := Lib.validD s.data.toList
theorem valid_any (s : ByteArray) (w : World) (hs : s.size ≤ 9223372036854775807) (hg : Glob w) : Calls Tryz.prog 89 #[.string s] w fun e w' => e = .returned (.bool (validT s)) ∧ Below w.heap.size w w' :=
 Tryz.utf8_ValidString s w hs hg.tabs
theorem check_long (s : ByteArray) (hA : AnyAt s) (w : World) (hg : Glob w) (h0 : 65535 < s.size) (hs : s.size ≤ 100000) :
  Calls Tryz.prog 55 #[.string s] w fun e w' => e = .returned (.tuple #[.string ⟨#[]⟩, .bool false, .int .i64 5]) ∧ Below w.heap.size w w' := by
 have d0 : decide (65535 < (s.size : Int)) = true := decide_eq_true (by omega);have HG := Lib.hid hg;have HA := Lib.hid hA;have HC := Lib.hid (cutT_size s);have HL := Lib.hid (splitT_length (cutT s));clear hg hA;go_enter Tryz.func55, Tryz.ntmps55
 go_wp2_with fail
 refine (cut_any s _ (by omega)).mono ?_;rintro e w1 ⟨rfl, rfl⟩
 go_wp2_with fail
 refine (split_any (cutT s) _ HG.out (by have := HC.out; omega)).mono ?_;rintro e w1 ⟨rfl, hw1⟩;have HS := Lib.hid (show StrsAt w1 (some ⟨w.heap.size, 0, none⟩) (splitT (cutT s)) by rw [hw1]; exact strs_new _ _ _ (by have := HC.out; have := HL.out; omega));have HB1 := Lib.hid (show Below w.heap.size w w1 by rw [hw1]; exact (Below.refl _ _).alloc (Nat.le_refl _) _);have HG1 := Lib.hid (HG.out.below HB1.out);clear hw1;go_wp2
 go_ret3
 exact ⟨rfl, HB1.out⟩
theorem check_empty (s : ByteArray) (hA : AnyAt s) (w : World) (hg : Glob w) (h0 : s.size ≤ 65535) (h1 : s.toList = []) :
  Calls Tryz.prog 55 #[.string s] w fun e w' => e = .returned (.tuple #[.string ⟨#[]⟩, .bool false, .int .i64 20]) ∧ Below w.heap.size w w' := by
 have d0 : decide (65535 < (s.size : Int)) = false := decide_eq_false (by omega);have HG := Lib.hid hg;have HA := Lib.hid hA;have HC := Lib.hid (cutT_size s);have HL := Lib.hid (splitT_length (cutT s));clear hg hA;go_enter Tryz.func55, Tryz.ntmps55
 go_wp2_with fail
 refine (cut_any s _ (by omega)).mono ?_;rintro e w1 ⟨rfl, rfl⟩
 go_wp2_with fail
 refine (split_any (cutT s) _ HG.out (by have := HC.out; omega)).mono ?_;rintro e w1 ⟨rfl, hw1⟩;have HS := Lib.hid (show StrsAt w1 (some ⟨w.heap.size, 0, none⟩) (splitT (cutT s)) by rw [hw1]; exact strs_new _ _ _ (by have := HC.out; have := HL.out; omega));have HB1 := Lib.hid (show Below w.heap.size w w1 by rw [hw1]; exact (Below.refl _ _).alloc (Nat.le_refl _) _);have HG1 := Lib.hid (HG.out.below HB1.out);clear hw1;go_wp2
 go_ret3
 exact ⟨rfl, HB1.out⟩
theorem check_invalid (s : ByteArray) (hA : AnyAt s) (w : World) (hg : Glob w) (h0 : s.size ≤ 65535) (h1 : s.toList ≠ []) (h2 : validT s = false) :
  Calls Tryz.prog 55 #[.string s] w fun e w' => e = .returned (.tuple #[.string ⟨#[]⟩, .bool false, .int .i64 20]) ∧ Below w.heap.size w w' := by
 have d0 : decide (65535 < (s.size : Int)) = false := decide_eq_false (by omega);have q1 : (!s.toList.isEmpty) = true := by simp [h1]
 have q2 : s.toList.isEmpty = false := by simp [h1]
 have HG := Lib.hid hg;have HA := Lib.hid hA;have HC := Lib.hid (cutT_size s);have HL := Lib.hid (splitT_length (cutT s));clear hg hA;go_enter Tryz.func55, Tryz.ntmps55
 go_wp2_with fail
 refine (cut_any s _ (by omega)).mono ?_;rintro e w1 ⟨rfl, rfl⟩
 go_wp2_with fail
 refine (split_any (cutT s) _ HG.out (by have := HC.out; omega)).mono ?_;rintro e w1 ⟨rfl, hw1⟩;have HS := Lib.hid (show StrsAt w1 (some ⟨w.heap.size, 0, none⟩) (splitT (cutT s)) by rw [hw1]; exact strs_new _ _ _ (by have := HC.out; have := HL.out; omega));have HB1 := Lib.hid (show Below w.heap.size w w1 by rw [hw1]; exact (Below.refl _ _).alloc (Nat.le_refl _) _);have HG1 := Lib.hid (HG.out.below HB1.out);clear hw1
 go_wp2_with fail
 refine (valid_any s _ (by omega) HG1.out).mono ?_;rintro e w2 ⟨rfl, hb⟩;have HS2 := Lib.hid (HS.out.below hb);have HB2 := Lib.hid (below_next HB1.out hb);have HG2 := Lib.hid (HG1.out.below hb);clear hb;go_wp2
 go_ret3
 exact ⟨rfl, HB2.out⟩
theorem check_bad (s : ByteArray) (hA : AnyAt s) (w : World) (hg : Glob w) (h0 : s.size ≤ 65535) (h1 : s.toList ≠ []) (h2 : validT s = true) (h3 : badBytes s = true) :
  Calls Tryz.prog 55 #[.string s] w fun e w' => e = .returned (.tuple #[.string ⟨#[]⟩, .bool false, .int .i64 21]) ∧ Below w.heap.size w w' := by
 have d0 : decide (65535 < (s.size : Int)) = false := decide_eq_false (by omega);have q1 : (!s.toList.isEmpty) = true := by simp [h1]
 have q2 : s.toList.isEmpty = false := by simp [h1]
 have HG := Lib.hid hg;have HA := Lib.hid hA;have HC := Lib.hid (cutT_size s);have HL := Lib.hid (splitT_length (cutT s));clear hg hA;go_enter Tryz.func55, Tryz.ntmps55
 go_wp2_with fail
 refine (cut_any s _ (by omega)).mono ?_;rintro e w1 ⟨rfl, rfl⟩
 go_wp2_with fail
 refine (split_any (cutT s) _ HG.out (by have := HC.out; omega)).mono ?_;rintro e w1 ⟨rfl, hw1⟩;have HS := Lib.hid (show StrsAt w1 (some ⟨w.heap.size, 0, none⟩) (splitT (cutT s)) by rw [hw1]; exact strs_new _ _ _ (by have := HC.out; have := HL.out; omega));have HB1 := Lib.hid (show Below w.heap.size w w1 by rw [hw1]; exact (Below.refl _ _).alloc (Nat.le_refl _) _);have HG1 := Lib.hid (HG.out.below HB1.out);clear hw1
 go_wp2_with fail
 refine (valid_any s _ (by omega) HG1.out).mono ?_;rintro e w2 ⟨rfl, hb⟩;have HS2 := Lib.hid (HS.out.below hb);have HB2 := Lib.hid (below_next HB1.out hb);have HG2 := Lib.hid (HG1.out.below hb);clear hb
 go_wp2_with fail
 refine (HA.out _ HG2.out).mono ?_;rintro e w3 ⟨rfl, hb⟩;have HS3 := Lib.hid (HS2.out.below hb);have HB3 := Lib.hid (below_next HB2.out hb);clear hb;go_wp2
 go_ret3
 exact ⟨rfl, HB3.out⟩
theorem check_unsafe (s : ByteArray) (hA : AnyAt s) (w : World) (hg : Glob w) (h0 : s.size ≤ 65535) (h1 : s.toList ≠ []) (h2 : validT s = true) (h3 : badBytes s = false) (h4 : badParts s = true) :
  Calls Tryz.prog 55 #[.string s] w fun e w' => e = .returned (.tuple #[.string ⟨#[]⟩, .bool false, .int .i64 21]) ∧ Below w.heap.size w w' := by
 unfold badParts at h4;have d0 : decide (65535 < (s.size : Int)) = false := decide_eq_false (by omega);have q1 : (!s.toList.isEmpty) = true := by simp [h1]
 have q2 : s.toList.isEmpty = false := by simp [h1]
 have HG := Lib.hid hg;have HA := Lib.hid hA;have HC := Lib.hid (cutT_size s);have HL := Lib.hid (splitT_length (cutT s));clear hg hA;go_enter Tryz.func55, Tryz.ntmps55
 go_wp2_with fail
 refine (cut_any s _ (by omega)).mono ?_;rintro e w1 ⟨rfl, rfl⟩
 go_wp2_with fail
 refine (split_any (cutT s) _ HG.out (by have := HC.out; omega)).mono ?_;rintro e w1 ⟨rfl, hw1⟩;have HS := Lib.hid (show StrsAt w1 (some ⟨w.heap.size, 0, none⟩) (splitT (cutT s)) by rw [hw1]; exact strs_new _ _ _ (by have := HC.out; have := HL.out; omega));have HB1 := Lib.hid (show Below w.heap.size w w1 by rw [hw1]; exact (Below.refl _ _).alloc (Nat.le_refl _) _);have HG1 := Lib.hid (HG.out.below HB1.out);clear hw1
 go_wp2_with fail
 refine (valid_any s _ (by omega) HG1.out).mono ?_;rintro e w2 ⟨rfl, hb⟩;have HS2 := Lib.hid (HS.out.below hb);have HB2 := Lib.hid (below_next HB1.out hb);have HG2 := Lib.hid (HG1.out.below hb);clear hb
 go_wp2_with fail
 refine (HA.out _ HG2.out).mono ?_;rintro e w3 ⟨rfl, hb⟩;have HS3 := Lib.hid (HS2.out.below hb);have HB3 := Lib.hid (below_next HB2.out hb);clear hb
 go_wp2_with fail
 refine (containsF_any 92 _ (enters_of Tryz.func92 (by kernel_rfl) rfl) unsafe_any _ _ _ _ HS3.out).mono ?_;rintro e w4 ⟨rfl, hd⟩;have HB4 := Lib.hid (below_of HB3.out hd);have HS4 := Lib.hid (HS3.out.below hd.below);clear hd;go_wp2
 go_ret3
 exact ⟨rfl, HB4.out⟩
theorem check_deep (s : ByteArray) (hA : AnyAt s) (w : World) (hg : Glob w) (h0 : s.size ≤ 65535) (h1 : s.toList ≠ []) (h2 : validT s = true) (h3 : badBytes s = false) (h4 : badParts s = false) (h5 : 32 < (splitT (cutT s)).length) :
  Calls Tryz.prog 55 #[.string s] w fun e w' => e = .returned (.tuple #[.string ⟨#[]⟩, .bool false, .int .i64 5]) ∧ Below w.heap.size w w' := by
 unfold badParts at h4;have d5 : decide (32 < ((splitT (cutT s)).length : Int)) = true := decide_eq_true (by omega);have d0 : decide (65535 < (s.size : Int)) = false := decide_eq_false (by omega);have q1 : (!s.toList.isEmpty) = true := by simp [h1]
 have q2 : s.toList.isEmpty = false := by simp [h1]
 have HG := Lib.hid hg;have HA := Lib.hid hA;have HC := Lib.hid (cutT_size s);have HL := Lib.hid (splitT_length (cutT s));clear hg hA;go_enter Tryz.func55, Tryz.ntmps55
 go_wp2_with fail
 refine (cut_any s _ (by omega)).mono ?_;rintro e w1 ⟨rfl, rfl⟩
 go_wp2_with fail
 refine (split_any (cutT s) _ HG.out (by have := HC.out; omega)).mono ?_;rintro e w1 ⟨rfl, hw1⟩;have HS := Lib.hid (show StrsAt w1 (some ⟨w.heap.size, 0, none⟩) (splitT (cutT s)) by rw [hw1]; exact strs_new _ _ _ (by have := HC.out; have := HL.out; omega));have HB1 := Lib.hid (show Below w.heap.size w w1 by rw [hw1]; exact (Below.refl _ _).alloc (Nat.le_refl _) _);have HG1 := Lib.hid (HG.out.below HB1.out);clear hw1
 go_wp2_with fail
 refine (valid_any s _ (by omega) HG1.out).mono ?_;rintro e w2 ⟨rfl, hb⟩;have HS2 := Lib.hid (HS.out.below hb);have HB2 := Lib.hid (below_next HB1.out hb);have HG2 := Lib.hid (HG1.out.below hb);clear hb
 go_wp2_with fail
 refine (HA.out _ HG2.out).mono ?_;rintro e w3 ⟨rfl, hb⟩;have HS3 := Lib.hid (HS2.out.below hb);have HB3 := Lib.hid (below_next HB2.out hb);clear hb
 go_wp2_with fail
 refine (containsF_any 92 _ (enters_of Tryz.func92 (by kernel_rfl) rfl) unsafe_any _ _ _ _ HS3.out).mono ?_;rintro e w4 ⟨rfl, hd⟩;have HB4 := Lib.hid (below_of HB3.out hd);have HS4 := Lib.hid (HS3.out.below hd.below);clear hd;go_wp2
 go_ret3
 exact ⟨rfl, HB4.out⟩
theorem check_part (s : ByteArray) (hA : AnyAt s) (w : World) (hg : Glob w) (h0 : s.size ≤ 65535) (h1 : s.toList ≠ []) (h2 : validT s = true) (h3 : badBytes s = false) (h4 : badParts s = false) (h5 : (splitT (cutT s)).length ≤ 32) (h6 : longParts s = true) :
  Calls Tryz.prog 55 #[.string s] w fun e w' => e = .returned (.tuple #[.string ⟨#[]⟩, .bool false, .int .i64 5]) ∧ Below w.heap.size w w' := by
 unfold badParts at h4;unfold longParts at h6;have d5 : decide (32 < ((splitT (cutT s)).length : Int)) = false := decide_eq_false (by omega);have d0 : decide (65535 < (s.size : Int)) = false := decide_eq_false (by omega);have q1 : (!s.toList.isEmpty) = true := by simp [h1]
 have q2 : s.toList.isEmpty = false := by simp [h1]
 have HG := Lib.hid hg;have HA := Lib.hid hA;have HC := Lib.hid (cutT_size s);have HL := Lib.hid (splitT_length (cutT s));clear hg hA;go_enter Tryz.func55, Tryz.ntmps55
 go_wp2_with fail
 refine (cut_any s _ (by omega)).mono ?_;rintro e w1 ⟨rfl, rfl⟩
 go_wp2_with fail
 refine (split_any (cutT s) _ HG.out (by have := HC.out; omega)).mono ?_;rintro e w1 ⟨rfl, hw1⟩;have HS := Lib.hid (show StrsAt w1 (some ⟨w.heap.size, 0, none⟩) (splitT (cutT s)) by rw [hw1]; exact strs_new _ _ _ (by have := HC.out; have := HL.out; omega));have HB1 := Lib.hid (show Below w.heap.size w w1 by rw [hw1]; exact (Below.refl _ _).alloc (Nat.le_refl _) _);have HG1 := Lib.hid (HG.out.below HB1.out);clear hw1
 go_wp2_with fail
 refine (valid_any s _ (by omega) HG1.out).mono ?_;rintro e w2 ⟨rfl, hb⟩;have HS2 := Lib.hid (HS.out.below hb);have HB2 := Lib.hid (below_next HB1.out hb);have HG2 := Lib.hid (HG1.out.below hb);clear hb
 go_wp2_with fail
 refine (HA.out _ HG2.out).mono ?_;rintro e w3 ⟨rfl, hb⟩;have HS3 := Lib.hid (HS2.out.below hb);have HB3 := Lib.hid (below_next HB2.out hb);clear hb
 go_wp2_with fail
 refine (containsF_any 92 _ (enters_of Tryz.func92 (by kernel_rfl) rfl) unsafe_any _ _ _ _ HS3.out).mono ?_;rintro e w4 ⟨rfl, hd⟩;have HB4 := Lib.hid (below_of HB3.out hd);have HS4 := Lib.hid (HS3.out.below hd.below);clear hd
 go_wp2_with fail
 refine (containsF_any 94 _ (enters_of Tryz.func94 (by kernel_rfl) rfl) long_any _ _ _ _ HS4.out).mono ?_;rintro e w5 ⟨rfl, hd⟩;have HB5 := Lib.hid (below_of HB4.out hd);clear hd;go_wp2
 go_ret3
 exact ⟨rfl, HB5.out⟩
theorem check_ok (s : ByteArray) (hA : AnyAt s) (w : World) (hg : Glob w) (h0 : s.size ≤ 65535) (h1 : s.toList ≠ []) (h2 : validT s = true) (h3 : badBytes s = false) (h4 : badParts s = false) (h5 : (splitT (cutT s)).length ≤ 32) (h6 : longParts s = false) :
  Calls Tryz.prog 55 #[.string s] w fun e w' => e = .returned (.tuple #[.string (cutT s), .bool (isDir s), .int .i64 0]) ∧ Below w.heap.size w w' := by
 unfold badParts at h4;unfold longParts at h6;have d5 : decide (32 < ((splitT (cutT s)).length : Int)) = false := decide_eq_false (by omega);have d0 : decide (65535 < (s.size : Int)) = false := decide_eq_false (by omega);have q1 : (!s.toList.isEmpty) = true := by simp [h1]
 have q2 : s.toList.isEmpty = false := by simp [h1]
 have HG := Lib.hid hg;have HA := Lib.hid hA;have HC := Lib.hid (cutT_size s);have HL := Lib.hid (splitT_length (cutT s));clear hg hA;go_enter Tryz.func55, Tryz.ntmps55
 go_wp2_with fail
 refine (cut_any s _ (by omega)).mono ?_;rintro e w1 ⟨rfl, rfl⟩
 go_wp2_with fail
 refine (split_any (cutT s) _ HG.out (by have := HC.out; omega)).mono ?_;rintro e w1 ⟨rfl, hw1⟩;have HS := Lib.hid (show StrsAt w1 (some ⟨w.heap.size, 0, none⟩) (splitT (cutT s)) by rw [hw1]; exact strs_new _ _ _ (by have := HC.out; have := HL.out; omega));have HB1 := Lib.hid (show Below w.heap.size w w1 by rw [hw1]; exact (Below.refl _ _).alloc (Nat.le_refl _) _);have HG1 := Lib.hid (HG.out.below HB1.out);clear hw1
 go_wp2_with fail
 refine (valid_any s _ (by omega) HG1.out).mono ?_;rintro e w2 ⟨rfl, hb⟩;have HS2 := Lib.hid (HS.out.below hb);have HB2 := Lib.hid (below_next HB1.out hb);have HG2 := Lib.hid (HG1.out.below hb);clear hb
 go_wp2_with fail
 refine (HA.out _ HG2.out).mono ?_;rintro e w3 ⟨rfl, hb⟩;have HS3 := Lib.hid (HS2.out.below hb);have HB3 := Lib.hid (below_next HB2.out hb);clear hb
 go_wp2_with fail
 refine (containsF_any 92 _ (enters_of Tryz.func92 (by kernel_rfl) rfl) unsafe_any _ _ _ _ HS3.out).mono ?_;rintro e w4 ⟨rfl, hd⟩;have HB4 := Lib.hid (below_of HB3.out hd);have HS4 := Lib.hid (HS3.out.below hd.below);clear hd
 go_wp2_with fail
 refine (containsF_any 94 _ (enters_of Tryz.func94 (by kernel_rfl) rfl) long_any _ _ _ _ HS4.out).mono ?_;rintro e w5 ⟨rfl, hd⟩;have HB5 := Lib.hid (below_of HB4.out hd);clear hd;go_wp2
 go_ret3
 exact ⟨rfl, HB5.out⟩
def checkE (s : ByteArray) : Int :=
 if 65535 < s.size then 5 else if s.toList = [] then 20 else if validT s = false then 20 else if badBytes s = true then 21 else if badParts s = true then 21 else if 32 < (splitT (cutT s)).length then 5 else if longParts s = true then 5 else 0
def checkP (s : ByteArray) : ByteArray := if checkE s = 0 then cutT s else ⟨#[]⟩
def checkD (s : ByteArray) : Bool := if checkE s = 0 then isDir s else false
theorem check_any (s : ByteArray) (hA : AnyAt s) (w : World) (hg : Glob w) (hs : s.size ≤ 100000) :
  Calls Tryz.prog 55 #[.string s] w fun e w' => e = .returned (.tuple #[.string (checkP s), .bool (checkD s), .int .i64 (checkE s)]) ∧ Below w.heap.size w w' := by
 by_cases h0 : 65535 < s.size
 ·
  have e : checkE s = 5 := by unfold checkE; rw [if_pos h0]
  unfold checkP checkD; rw [e];exact check_long s hA w hg h0 hs
 by_cases h1 : s.toList = []
 ·
  have e : checkE s = 20 := by unfold checkE; rw [if_neg h0, if_pos h1]
  unfold checkP checkD; rw [e];exact check_empty s hA w hg (by omega) h1
 by_cases h2 : validT s = false
 ·
  have e : checkE s = 20 := by unfold checkE; rw [if_neg h0, if_neg h1, if_pos h2]
  unfold checkP checkD; rw [e];exact check_invalid s hA w hg (by omega) h1 h2
 have h2' : validT s = true := by simpa using h2
 by_cases h3 : badBytes s = true
 ·
  have e : checkE s = 21 := by unfold checkE; rw [if_neg h0, if_neg h1, if_neg h2, if_pos h3]
  unfold checkP checkD; rw [e];exact check_bad s hA w hg (by omega) h1 h2' h3
 have h3' : badBytes s = false := by simpa using h3
 by_cases h4 : badParts s = true
 ·
  have e : checkE s = 21 := by unfold checkE; rw [if_neg h0, if_neg h1, if_neg h2, if_neg h3, if_pos h4]
  unfold checkP checkD; rw [e];exact check_unsafe s hA w hg (by omega) h1 h2' h3' h4
 have h4' : badParts s = false := by simpa using h4
 by_cases h5 : 32 < (splitT (cutT s)).length
 ·
  have e : checkE s = 5 := by unfold checkE; rw [if_neg h0, if_neg h1, if_neg h2, if_neg h3, if_neg h4, if_pos h5]
  unfold checkP checkD; rw [e];exact check_deep s hA w hg (by omega) h1 h2' h3' h4' h5
 by_cases h6 : longParts s = true
 ·
  have e : checkE s = 5 := by unfold checkE; rw [if_neg h0, if_neg h1, if_neg h2, if_neg h3, if_neg h4, if_neg h5, if_pos h6]
  unfold checkP checkD; rw [e];exact check_part s hA w hg (by omega) h1 h2' h3' h4' (by omega) h6
 have h6' : longParts s = false := by simpa using h6
 have e : checkE s = 0 := by unfold checkE; rw [if_neg h0, if_neg h1, if_neg h2, if_neg h3, if_neg h4, if_neg h5, if_neg h6]
 unfold checkP checkD; rw [e];exact check_ok s hA w hg (by omega) h1 h2' h3' h4' (by omega) h6'
end Go.Proofs.YtibmfjacfbpfgaaGreatDoor.NameWalk
