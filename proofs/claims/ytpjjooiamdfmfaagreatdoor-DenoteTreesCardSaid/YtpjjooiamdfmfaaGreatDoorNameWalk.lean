/- The walks of package name: safe, Parts, Order, Check. -/
import Derived.Test.YtpjjooiamdfmfaaGreatDoorNameCmp
import Derived.Test.YtpjjooiamdfmfaaGreatDoorShelf
import Derived.Deep.LoopGhost
import Derived.Lib.IndexAny
set_option linter.unusedVariables false
set_option linter.unusedSimpArgs false
namespace Go.Proofs.YtpjjooiamdfmfaaGreatDoor.NameWalk
open Go.RowKit Go.Proofs.YtpjjooiamdfmfaaGreatDoorW.PrintWords Go.Proofs.YtpjjooiamdfmfaaGreatDoorW.PrintLast Go.Proofs.YtpjjooiamdfmfaaGreatDoor.NameLaw Go.Proofs.YtpjjooiamdfmfaaGreatDoor.NameCmp

/-- What the library's variables hold: utf8's tables, a number. -/
structure Glob (w : World) : Prop where mk :: (tabs : Lib.Utf8Tabs 0 1 w) (max : ∃ m, w.cell? ⟨2, 0, none⟩ = some (.int .i64 m))
theorem Glob.below {w w1 : World} (h : Glob w) (hb : Below w.heap.size w w1) : Glob w1 :=
  ⟨⟨fun c hc => pw_cell_below hb (h.tabs.1 c hc), fun i hi => ⟨pw_cell_below hb (h.tabs.2 i hi).1, pw_cell_below hb (h.tabs.2 i hi).2⟩⟩, by obtain ⟨m, hm⟩ := h.max; exact ⟨m, pw_cell_below hb hm⟩⟩
theorem below_of {w w1 w2 : World} (h : Below w.heap.size w w1) (k : Drawn0 w1 w2) : Below w.heap.size w w2 := h.trans (k.below.mono h.size)
theorem below_next {w w1 w2 : World} (h : Below w.heap.size w w1) (k : Below w1.heap.size w1 w2) : Below w.heap.size w w2 := h.trans (k.mono h.size)

/-! ### Parts -/
def slash : ByteArray := ⟨#[47]⟩
/-- A path's pieces, as texts. -/
def splitT (p : ByteArray) : List ByteArray := (splitL p.data.toList).map fun l => ⟨l.toArray⟩
def partsT (p : ByteArray) : List ByteArray := (partsL p.data.toList).map fun l => ⟨l.toArray⟩
theorem partsT_data (p : ByteArray) : (partsT p).map (·.data.toList) = partsL p.data.toList := by
  unfold partsT; rw [List.map_map]; conv => rhs; rw [← List.map_id (partsL p.data.toList)]
  rfl
theorem splitB_slash (p : ByteArray) : Lib.splitB slash 0 (Lib.countB p slash) p = splitT p := by
  have h := Lib.splitB_data slash 0 (Lib.countB p slash) p
  have h2 : Lib.splitK [47] 0 (Lib.count p.data.toList [47]) p.data.toList = splitL p.data.toList := split_one p.data.toList
  have h3 : (Lib.splitB slash 0 (Lib.countB p slash) p).map (·.data.toList) = splitL p.data.toList := h.trans h2
  unfold splitT
  rw [← h3, List.map_map]
  conv => lhs; rw [← List.map_id (Lib.splitB slash 0 (Lib.countB p slash) p)]
  rfl
theorem countB_slash (p : ByteArray) : Lib.countB p slash + 1 = (splitT p).length := by
  rw [← splitB_slash]
  exact (Lib.splitB_all slash (by decide) 0 _ p rfl).symm
/-- strings.Split at a slash. -/
theorem split_any (p : ByteArray) (w : World) (hg : Glob w) (hp : p.size < 4294967281) :
    Calls Tryz.prog 83 #[.string p, .string ⟨#[47]⟩] w fun e w' => e = .returned (.slice (some ⟨w.heap.size, 0, none⟩) (splitT p).length (splitT p).length) ∧ w' = w.alloc (.cells ((splitT p).map Value.string).toArray 9) := by
  obtain ⟨m, hm⟩ := hg.max
  have h := Tryz.strings_Split p slash m w hp hm (by decide)
  rw [countB_slash, splitB_slash] at h
  exact h
theorem strs_new (w : World) (l : List ByteArray) (t : TypeId) (hl : l.length ≤ 9223372036854775807) : StrsAt (w.alloc (.cells (l.map Value.string).toArray t)) (some ⟨w.heap.size, 0, none⟩) l :=
  ⟨hl, fun _ => ⟨_, rfl, fun j h => by
    rw [add_plain, cell_of_row _ _ _ _ _ _ (heap_alloc_new w _)]
    simp [List.getElem?_eq_getElem h]⟩⟩
theorem splitL_length (l : List UInt8) : (splitL l).length ≤ l.length + 1 := by
  induction l with
  | nil => simp [splitL]
  | cons c l ih =>
    rw [splitL_cons]
    split
    · simp; omega
    · cases h : splitL l with
      | nil => simp
      | cons p ps => rw [h] at ih; simp at ih ⊢; omega
theorem splitT_length (p : ByteArray) : (splitT p).length ≤ p.size + 1 := by
  unfold splitT
  rw [List.length_map]
  have := splitL_length p.data.toList
  rw [Lib.size_eq]; exact this
/-- What Parts hands back. -/
def PartsPost (p : ByteArray) (w : World) (e : Ending) (w' : World) : Prop :=
  ∃ A c, e = .returned (.slice A (partsT p).length c) ∧ StrsAt w' A (partsT p) ∧ Below w.heap.size w w'
set_option maxHeartbeats 400000 in
theorem parts_any (p : ByteArray) (w : World) (hg : Glob w) (hp : p.size < 4294967281) : Calls Tryz.prog 81 #[.string p] w (PartsPost p w) := by
  by_cases h0 : p.toList = []
  · have hz : partsT p = [] := by
      unfold partsT partsL
      rw [if_pos (by rw [← Lib.toList_data]; exact h0)]; rfl
    have HZ := Lib.hid hz
    clear hz
    go_enter Tryz.func81, Tryz.ntmps81
    go_wp2
    go_ret
    exact ⟨none, 0, by rw [HZ.out]; rfl, by rw [HZ.out]; exact ⟨by simp, fun h => absurd h (by simp)⟩, Below.refl _ _⟩
  · have hz : partsT p = splitT p := by
      unfold partsT partsL splitT
      rw [if_neg (by rw [← Lib.toList_data]; exact h0)]
    have HZ := Lib.hid hz
    have HL := Lib.hid (splitT_length p)
    have HG := Lib.hid hg
    have hd : (!p.toList.isEmpty) = true := by simp [h0]
    have hd2 : p.toList.isEmpty = false := by simp [h0]
    clear hz hg
    go_enter Tryz.func81, Tryz.ntmps81
    go_wp2_with (go_at_call 83; refine (split_any _ _ HG.out (by omega)).mono ?_; rintro e w' ⟨rfl, rfl⟩)
    go_ret
    exact ⟨_, _, by rw [HZ.out]; rfl, by rw [HZ.out]; exact strs_new _ _ _ (by have := HL.out; omega), (Below.refl _ _).alloc (Nat.le_refl _) _⟩
/-! ### Order -/
def orderT (a b : ByteArray) : Int := orderL a.data.toList b.data.toList
set_option maxHeartbeats 400000 in
theorem order_any (a b : ByteArray) (w : World) (hg : Glob w) (ha : a.size < 4294967281) (hb : b.size < 4294967281) :
    Calls Tryz.prog 55 #[.string a, .string b] w fun e w' => e = .returned (.int .i64 (orderT a b)) ∧ Below w.heap.size w w' := by
  have hR : orderT a b = cmpPB (partsT a) (partsT b) := by
    rw [cmpPB_data, partsT_data, partsT_data]; rfl
  rw [hR]
  have HG := Lib.hid hg
  clear hg hR
  go_enter Tryz.func55, Tryz.ntmps55
  go_wp2_with fail
  refine (parts_any a _ HG.out (by omega)).mono ?_
  rintro e w1 ⟨A, c, rfl, hs1, hb1⟩
  have HG1 := Lib.hid (HG.out.below hb1)
  have HS1 := Lib.hid hs1
  have HB1 := Lib.hid hb1
  clear hs1 hb1
  go_wp2_with fail
  refine (parts_any b _ HG1.out (by omega)).mono ?_
  rintro e w2 ⟨B, d, rfl, hs2, hb2⟩
  have HS1b := Lib.hid (HS1.out.below hb2)
  have HS2 := Lib.hid hs2
  have HB2 := Lib.hid (below_next HB1.out hb2)
  clear hs2 hb2
  go_wp2_with fail
  refine (scompare_any A B c d _ _ _ HS1b.out HS2.out).mono ?_
  rintro e w3 ⟨rfl, hd⟩
  have HB3 := Lib.hid (below_of HB2.out hd)
  clear hd
  go_wp2
  go_ret
  exact ⟨rfl, HB3.out⟩
/-! ### safe, and what is asked of the parts -/
def safeL (l : List UInt8) : Bool := l != [] && l != [46] && l != [46, 46]
/-! ### Check -/
def cutT (s : ByteArray) : ByteArray := ⟨(Lib.trimSuffix s.data.toList [47]).toArray⟩
def isDir (s : ByteArray) : Bool := Lib.hasSuffix s.data.toList [47]
def badBytes (s : ByteArray) : Bool := Lib.containsAny s.data.toList [0, 92]
def badParts (s : ByteArray) : Bool := (splitT (cutT s)).any fun x => !safeL x.data.toList
def longParts (s : ByteArray) : Bool := (splitT (cutT s)).any fun x => decide (255 < x.size)
theorem cutT_size (s : ByteArray) : (cutT s).size ≤ s.size := by
  rw [Lib.size_eq, Lib.size_eq]
  show (Lib.trimSuffix s.data.toList [47]).length ≤ _
  unfold Lib.trimSuffix
  split
  · simp
  · exact Nat.le_refl _
def validT (s : ByteArray) : Bool := Lib.validD s.data.toList
/-- The path of a name, whether it is a directory's, or why it may be none. -/
def checkE (s : ByteArray) : Int :=
  if 65535 < s.size then 5 else if s.toList = [] then 20 else if validT s = false then 20 else if badBytes s = true then 21 else if badParts s = true then 21 else if 32 < (splitT (cutT s)).length then 5 else if longParts s = true then 5 else 0
def checkP (s : ByteArray) : ByteArray := if checkE s = 0 then cutT s else ⟨#[]⟩
def checkD (s : ByteArray) : Bool := if checkE s = 0 then isDir s else false
end Go.Proofs.YtpjjooiamdfmfaaGreatDoor.NameWalk
