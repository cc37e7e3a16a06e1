/- slices.SortFunc at texts, by name.Order. -/
import Derived.Test.YtibmfjacfbpfgaaGreatDoorOrderEq
import Derived.Test.YtibmfjacfbpfgaaGreatDoorShelfC
import Derived.Test.YtibmfjacfbpfgaaGreatDoorRefB
set_option linter.unusedVariables false
set_option linter.unusedSimpArgs false
namespace Go.Proofs.YtibmfjacfbpfgaaGreatDoor.SortStr
open Go.RowKit Go.Proofs YtibmfjacfbpfgaaGreatDoorW.PrintWords YtibmfjacfbpfgaaGreatDoorW.PrintLast YtibmfjacfbpfgaaGreatDoor.Item Own NameLaw NameCmp NameWalk TreeLaw OrderEq TreeRDiff Go.Sort
/-! ### a row sorted in its place -/
theorem heap_sortedP {w : World} {g n : Nat} {os : Array Obj} {cur : Array Value} {e : TypeId} {fr : Nat × Nat} (d : Array Pth) (hb : w.heap[g]? = some (.cells cur e fr)) :
  (sortWorld encP w g 0 n d os).heap[g]? = some (.cells (putCells encP 0 d cur) e fr) := by
 have hg : g < w.heap.size := (Array.getElem?_eq_some_iff.1 hb).1
 unfold sortWorld
 rw [heap_grow_old _ _ (by simpa [putRow, mapBlock, Sort.ahead] using hg)]
 simp [putRow, mapBlock, Sort.ahead, Array.getElem?_modify, hb, onCells]
theorem take_putCellsP (cur : Array Value) (ts : List Pth) (h : ts.length ≤ cur.size) : (putCells encP 0 ts.toArray cur).toList.take ts.length = ts.map encP := by
 apply List.ext_getElem?
 intro j
 by_cases hj : j < ts.length
 ·
  rw [List.getElem?_take_of_lt hj, Array.getElem?_toList]
  simp [putCells, hj, show j < cur.size by omega]
 ·
  rw [List.getElem?_take_eq_none (by omega), List.getElem?_eq_none (by simp; omega)]
theorem holdsP {w : World} {g : Nat} {cur : Array Value} {e : TypeId} {ss : List Pth} (hb : w.heap[g]? = some (.cells cur e (0, 0))) (ht : cur.toList.take ss.length = ss.map encP) : Holds encP w g 0 ss.toArray := by
 intro j hj
 have hj' : j < ss.length := by simpa using hj
 refine ⟨?_, by simp [World.frozen?, hb]⟩
 have h1 : (cur.toList.take ss.length)[j]? = (ss.map encP)[j]? := by rw [ht]
 rw [List.getElem?_take_of_lt hj'] at h1
 simp only [World.cell?, hb, Nat.zero_add]
 simp only [Option.isSome_none, Bool.false_eq_true, if_false]
 rw [← Array.getElem?_toList, h1]
 simp [hj']
/-! ### the texts as paths -/
def pths (l : List ByteArray) (h : ∀ x ∈ l, x.size ≤ 10000) : List Pth := l.pmap (fun x hx => (⟨x, hx⟩ : Pth)) h
theorem pths_map {l : List ByteArray} (h : ∀ x ∈ l, x.size ≤ 10000) : (pths l h).map (·.1) = l := by
 unfold pths
 rw [List.map_pmap]
 simp
theorem pths_length {l : List ByteArray} (h : ∀ x ∈ l, x.size ≤ 10000) : (pths l h).length = l.length := by
 unfold pths
 rw [List.length_pmap]
theorem pths_enc {l : List ByteArray} (h : ∀ x ∈ l, x.size ≤ 10000) : (pths l h).map encP = l.map Value.string := by
 conv => rhs; rw [← pths_map h]
 rw [List.map_map]; rfl
theorem reps_inner {w : World} {base : Nat} {ok : Nat → Prop} : ∀ {l : List ByteArray} {inner : List Value}, Reps (Kd.string.M w base ok) 1 l inner → inner = l.map Value.string := by
 intro l inner h
 apply List.ext_getElem?
 intro j
 have hlen : inner.length = l.length := by rw [h.1, Nat.mul_one]
 by_cases hj : j < l.length
 ·
  have h2 := h.2 j l[j] (List.getElem?_eq_getElem hj)
  have h3 : (inner.drop (j * 1)).take 1 = [Value.string l[j]] := h2
  rw [Nat.mul_one] at h3
  have h4 := congrArg (fun z => z[0]?) h3
  simp only [List.getElem?_take, List.getElem?_drop, Nat.add_zero] at h4
  simp [hj] at h4
  rw [List.getElem?_map, List.getElem?_eq_getElem hj, h4]; rfl
 ·
  rw [List.getElem?_eq_none (by omega), List.getElem?_eq_none (by rw [List.length_map]; omega)]
theorem swoP : SWO (ltOf cfP) where
 irrefl x := by unfold ltOf cfP; rw [orderT_self]; rfl
 trans x y z h k := by
  unfold ltOf cfP at *
  exact decide_eq_true (orderT_lt (of_decide_eq_true h) (of_decide_eq_true k))
 ntrans x y z h k := by
  unfold ltOf cfP at *
  have h := of_decide_eq_false h
  have k := of_decide_eq_false k
  have h1 := orderT_neg x.1 y.1
  have h2 := orderT_neg y.1 z.1
  have h3 := orderT_neg x.1 z.1
  have : orderT z.1 x.1 ≤ 0 := orderT_trans (b := y.1) (by omega) (by omega)
  exact decide_eq_false (by omega)
theorem totP (x y : Pth) (h : ltOf cfP x y = false) (k : ltOf cfP y x = false) : x = y := by
 unfold ltOf cfP at *
 have h := of_decide_eq_false h
 have k := of_decide_eq_false k
 have h1 := orderT_neg x.1 y.1
 exact Subtype.ext (orderT_zero (by omega))
theorem merge_le (l : List Pth) : ((l.mergeSort fun x y => !(ltOf cfP) y x).map (·.1)).Pairwise (fun x y => orderT x y ≤ 0) := by
 rw [List.pairwise_map]
 have h := List.pairwise_mergeSort (le := fun x y : Pth => !(ltOf cfP) y x) (fun a b c h1 h2 => by
  have h1 : ltOf cfP b a = false := by simpa using h1
  have h2 : ltOf cfP c b = false := by simpa using h2
  have := swoP.ntrans _ _ _ h2 h1
  simp [this]) (fun a b => by
  unfold ltOf cfP
  have := orderT_neg a.1 b.1
  by_cases e : orderT b.1 a.1 < 0
  ·
   have : ¬ orderT a.1 b.1 < 0 := by omega
   simp [this]
  ·
   simp [e]) l
 refine h.imp (fun {x y} hxy => ?_)
 have hxy : ltOf cfP y x = false := by simpa using hxy
 unfold ltOf cfP at hxy
 have := of_decide_eq_false hxy
 have := orderT_neg x.1 y.1
 omega
set_option maxHeartbeats 2000000 in
theorem sortstr_any (W0 w : World) (hg : Glob W0) (hb : Below W0.heap.size W0 w) (v : Value) (l : List ByteArray) (hR : Kd.string.R 9 w W0.heap.size (fun _ => True) v l) (hl : ∀ x ∈ l, x.size ≤ 10000) (hn : l.length ≤ 1000) :
  Calls Tryz.prog 82 #[v, .func (.func 83) #[] #[]] w fun e w' => e = .returned (.tuple #[]) ∧ ∃ s, s.Perm l ∧ s.Pairwise (fun x y => orderT x y ≤ 0) ∧ Kd.string.R 9 w' W0.heap.size (fun _ => True) v s ∧ Below W0.heap.size W0 w' := by
 have hR0 := hR
 obtain ⟨hok, inner, hown, hreps⟩ := hR
 have hin := reps_inner hreps
 subst hin
 have hown : w.ownsRow W0.heap.size 9 1 v l.length (l.map Value.string) := hown
 rcases hown.2 with ⟨rfl, hl0⟩ | ⟨g, cap, cur, rfl, hbase, hcur, h1, h2, h3, h4⟩
 ·
  have : l = [] := List.eq_nil_of_length_eq_zero hl0
  subst this
  refine (AnyF.slices_SortFunc_none (P := Tryz.prog) (ρ := Tryz.sortF_ren) { Tryz.sortF with } none 0 (.func (.func 83) #[] #[]) w).mono ?_
  rintro e w' ⟨rfl, rfl⟩
  exact ⟨rfl, [], List.Perm.refl _, List.Pairwise.nil, hR0, hb⟩
 ·
  have hgl : g < w.heap.size := (Array.getElem?_eq_some_iff.1 hcur).1
  have ht : cur.toList.take (pths l hl).length = (pths l hl).map encP := by
   rw [pths_length, pths_enc, ← h4, Nat.mul_one]
  have hS := Any.slices_SortFunc_total Tryz.sortF encP (fun _ => rfl) cfP swoP 83 #[] g 0 cap (pths l hl).toArray w
   (fun args W => enters_of Tryz.func83 (by kernel_rfl) rfl args W) (cmpP_lays hg hb hbase 0 _) (holdsP hcur ht) hgl (by rw [List.size_toArray, pths_length]; omega) totP
  rw [List.size_toArray, pths_length] at hS
  refine hS.mono ?_
  rintro e w' ⟨rfl, n, os, rfl⟩
  obtain ⟨S, hSd⟩ : ∃ S, S = (pths l hl).mergeSort fun x y => !(ltOf cfP) y x := ⟨_, rfl⟩
  have hSl : S.length = l.length := by rw [hSd, List.length_mergeSort, pths_length]
  have hSp : (S.map (·.1)).Perm l := by
   have := (List.mergeSort_perm (pths l hl) (fun x y => !(ltOf cfP) y x)).map (·.1)
   rw [pths_map] at this
   rw [hSd]; exact this
  have hSs : (S.map (·.1)).Pairwise (fun x y => orderT x y ≤ 0) := by rw [hSd]; exact merge_le _
  refine ⟨rfl, S.map (·.1), hSp, hSs, ?_, ?_⟩
  ·
   show Kd.string.R 9 (sortWorld encP w g 0 n ((pths l hl).mergeSort fun x y => !(ltOf cfP) y x).toArray os) W0.heap.size (fun _ => True) (.slice (some ⟨g, 0, none⟩) l.length cap) (S.map (·.1))
   rw [← hSd]
   refine ⟨fun _ _ => trivial, (S.map (·.1)).map Value.string, ⟨by rw [show Kd.string.sz = 1 from rfl]; simp, .inr ⟨g, cap, _, by rw [List.length_map, hSl], hbase, heap_sortedP _ hcur, by rw [List.length_map, hSl]; exact h1, h2, by rw [show Kd.string.sz = 1 from rfl]; simp [putCells, h3], ?_⟩⟩, Kd.reps_scalar _⟩
   rw [show Kd.string.sz = 1 from rfl, List.length_map, Nat.mul_one, List.map_map]
   exact take_putCellsP cur S (by rw [h3, hSl]; omega)
  ·
   exact glob_sort hg hb hbase 0 n _ os
end Go.Proofs.YtibmfjacfbpfgaaGreatDoor.SortStr
