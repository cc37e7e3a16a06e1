/- a map of the call's own, keyed by texts, whatever its elements: made, asked, written. -/
import Derived.Test.YtibmfjacfbpfgaaGreatDoorItem
import Derived.Maps.Own
import Derived.Maps.Range
set_option linter.unusedVariables false
set_option linter.unusedSimpArgs false
namespace Go.Proofs.YtibmfjacfbpfgaaGreatDoor.MapS
open Go.RowKit Go.MapKept Go.ChangeMaps YtibmfjacfbpfgaaGreatDoorW.PrintWords YtibmfjacfbpfgaaGreatDoorW.PrintLast YtibmfjacfbpfgaaGreatDoorW.PrintMore
section
variable {α : Type} {P : Program}
/-- Each entry's stamp is its own, and below the clock. -/
def Stp (es : Array MapEntry) (clock : Nat) : Prop := (∀ n ∈ es.toList.map (·.born), n < clock) ∧ (es.toList.map (·.born)).Nodup
/-- Block b is a map that answers f. -/
def MapF (enc : α → Value) (w : World) (b : Nat) (f : ByteArray → Option α) : Prop :=
 ∃ (es : Array MapEntry) (clock : Nat) (m : List (ByteArray × α)), w.heap[b]? = some (.map es clock) ∧ es.toList.map (fun e => (e.key, e.val)) = m.map (fun p => (Value.string p.1, enc p.2)) ∧ (m.map (·.1)).Nodup ∧ (∀ k, f k = (m.find? (fun p => decide (p.1 = k))).map (·.2)) ∧ Stp es clock
variable {enc : α → Value} {w : World} {b : Nat} {f : ByteArray → Option α}
theorem MapF.made (enc : α → Value) (w : World) : MapF enc (w.alloc (.map #[] 0)) w.heap.size (fun _ => none) :=
 ⟨#[], 0, [], (MapKept.heap_alloc w _).1, rfl, List.nodup_nil, fun _ => rfl, fun n h => absurd h (by simp), List.nodup_nil⟩
theorem MapF.lt (h : MapF enc w b f) : b < w.heap.size := by
 obtain ⟨es, clock, m, hb, _⟩ := h
 exact (Array.getElem?_eq_some_iff.1 hb).1
theorem MapF.move {w1 : World} (h : MapF enc w b f) (e : w1.heap[b]? = w.heap[b]?) : MapF enc w1 b f := by
 obtain ⟨es, clock, m, hb, h1, h2, h3⟩ := h
 exact ⟨es, clock, m, e.trans hb, h1, h2, h3⟩
theorem MapF.below {w1 : World} (h : MapF enc w b f) (hb : Below w.heap.size w w1) : MapF enc w1 b f := h.move (hb.block b h.lt)
theorem MapF.drewN (h : MapF enc w b f) (n : Nat) : MapF enc (w.drewN n) b f := h
theorem MapF.grown {w1 : World} {row : Option Nat} (h : MapF enc w b f) (hg : w.grownBy w1 row) (hne : some b ≠ row) : MapF enc w1 b f := h.move (hg.block b h.lt hne)
theorem MapF.congr {g : ByteArray → Option α} (h : MapF enc w b f) (e : ∀ k, f k = g k) : MapF enc w b g := by
 have : f = g := funext e
 subst this
 exact h
theorem keys_of {es : Array MapEntry} {m : List (ByteArray × α)} (h : es.toList.map (fun e => (e.key, e.val)) = m.map (fun p => (Value.string p.1, enc p.2))) : ∀ x ∈ es.toList, IsKey .string x.key := by
 intro x hx
 have : (x.key, x.val) ∈ m.map (fun p => (Value.string p.1, enc p.2)) := by rw [← h]; exact List.mem_map.2 ⟨x, hx, rfl⟩
 obtain ⟨p, _, e⟩ := List.mem_map.1 this
 injection e with e1 e2
 rw [← e1]
 trivial
theorem at_of {es : Array MapEntry} {m : List (ByteArray × α)} (h : es.toList.map (fun e => (e.key, e.val)) = m.map (fun p => (Value.string p.1, enc p.2))) {j : Nat} {e0 : MapEntry} (hj : es.toList[j]? = some e0) : ∃ p, m[j]? = some p ∧ e0.key = .string p.1 ∧ e0.val = enc p.2 := by
 have h1 : (es.toList.map (fun e => (e.key, e.val)))[j]? = some (e0.key, e0.val) := by rw [List.getElem?_map, hj]; rfl
 rw [h, List.getElem?_map] at h1
 cases hm : m[j]? with
 | none => rw [hm] at h1; simp at h1
 | some p =>
  rw [hm] at h1
  have h2 := Option.some.inj h1
  injection h2 with e1 e2
  exact ⟨p, rfl, e1.symm, e2.symm⟩
theorem find_at : ∀ (m : List (ByteArray × α)) (j : Nat) (p : ByteArray × α), (m.map (·.1)).Nodup → m[j]? = some p → m.find? (fun q => decide (q.1 = p.1)) = some p
 | [], j, p, _, h => by simp at h
 | q :: m, 0, p, _, h => by
  have : q = p := by simpa using h
  subst this
  simp
 | q :: m, j + 1, p, hn, h => by
  have hn' : (q.1 :: m.map (·.1)).Nodup := hn
  obtain ⟨h1, h2⟩ := List.nodup_cons.1 hn'
  have hm : m[j]? = some p := by simpa using h
  have hne : ¬ q.1 = p.1 := by
   intro e
   rw [e] at h1
   exact h1 (List.mem_map.2 ⟨p, List.mem_of_getElem? hm, rfl⟩)
  rw [List.find?_cons_of_neg (by simpa using hne)]
  exact find_at m j p h2 hm
theorem stp_push {es : Array MapEntry} {clock : Nat} {k v : Value} (h : Stp es clock) : Stp (es.push ⟨k, v, clock⟩) (clock + 1) := by
 unfold Stp at *
 rw [Array.toList_push, List.map_append]
 refine ⟨fun n hn => ?_, ?_⟩
 ·
  rcases List.mem_append.1 hn with e | e
  ·
   have := h.1 n e; omega
  ·
   have : n = clock := by simpa using e
   omega
 ·
  rw [List.nodup_append]
  refine ⟨h.2, List.nodup_cons.2 ⟨by simp, List.nodup_nil⟩, fun a ha b hb => ?_⟩
  have := h.1 a ha
  have : b = clock := by simpa using hb
  omega
theorem stp_modify {es : Array MapEntry} {clock j : Nat} {k v : Value} (h : Stp es clock) : Stp (es.modify j fun e => { e with key := k, val := v }) clock := by
 have e : (es.modify j fun e => { e with key := k, val := v }).toList.map (·.born) = es.toList.map (·.born) := by
  apply List.ext_getElem?
  intro i
  simp only [List.getElem?_map, Array.getElem?_toList, Array.getElem?_modify]
  by_cases hij : j = i
  ·
   subst hij
   simp only [if_true]
   cases es[j]? <;> rfl
  ·
   rw [if_neg hij]
 unfold Stp at *
 rw [e]
 exact h
/-- What a map answers: at each text. -/
theorem MapF.ask {t kT eT : TypeId} (ht : P.underlying t = some (.map kT eT)) (hk : P.underlying kT = some .string) (h : MapF enc w b f) {z : Value} (hz : (zeroValue eT).run P w = .ok z w) (key : ByteArray) (ok : Bool) :
  (Instr.lookup t (.map (some b)) (.string key) ok).run P w = .ok (if ok then .tuple #[((f key).map enc).getD z, .bool (f key).isSome] else ((f key).map enc).getD z) w := by
 obtain ⟨es, clock, m, hb, hem, hnd, hf, hst⟩ := h
 rcases findNow_spec (d := .string) (k := .string key) trivial es.toList 0 (keys_of hem) with ⟨h1, h2⟩ | ⟨j, e0, h1, h2, h3⟩
 ·
  have hn : f key = none := by
   rw [hf]
   have : m.find? (fun p => decide (p.1 = key)) = none := by
    refine List.find?_eq_none.2 (fun p hp e => ?_)
    have e := of_decide_eq_true e
    have : (Value.string p.1, enc p.2) ∈ es.toList.map (fun e => (e.key, e.val)) := by rw [hem]; exact List.mem_map.2 ⟨p, hp, rfl⟩
    obtain ⟨x, hx, ex⟩ := List.mem_map.1 this
    injection ex with e1 e2
    exact h2 x hx (by rw [e1, e])
   rw [this]; rfl
  rw [hn]
  cases ok <;> simp [Instr.lookup, run_underlying ht, MapKept.run_getObj_map hb, run_checkKey hk (d := .string) (k := .string key) trivial, run_findKey hk h1, hz, Result.andThen]
 ·
  obtain ⟨p, hp, e1, e2⟩ := at_of hem (by simpa using h2)
  have ek : p.1 = key := by
   rw [h3] at e1
   injection e1 with e1
   exact e1.symm
  have hn : f key = some p.2 := by
   rw [hf, ← ek, find_at m j p hnd hp]; rfl
  rw [hn]
  cases ok <;> simp [Instr.lookup, run_underlying ht, MapKept.run_getObj_map hb, run_checkKey hk (d := .string) (k := .string key) trivial, run_findKey hk h1, Result.andThen, e2]
/-- A map is written. -/
theorem MapF.store {t kT eT : TypeId} (ht : P.underlying t = some (.map kT eT)) (hk : P.underlying kT = some .string) (h : MapF enc w b f) (key : ByteArray) (x : α) :
  ∃ w1, (Instr.mapUpdate t (.map (some b)) (.string key) (enc x)).run P w = .ok () w1 ∧ MapF enc w1 b (fun k => if k = key then some x else f k) ∧ w.grownBy w1 (some b) := by
 obtain ⟨es, clock, m, hb, hem, hnd, hf, hst⟩ := h
 have grow : ∀ o : Obj, w.grownBy (setBlock w b o) (some b) := fun o => ⟨rfl, rfl, rfl, by simp [setBlock], fun i _ hi => heap_setBlock_other hb _ (fun e => hi (by rw [e]))⟩
 rcases findNow_spec (d := .string) (k := .string key) trivial es.toList 0 (keys_of hem) with ⟨h1, h2⟩ | ⟨j, e0, h1, h2, h3⟩
 ·
  have hno : ∀ p ∈ m, ¬ p.1 = key := by
   intro p hp e
   have : (Value.string p.1, enc p.2) ∈ es.toList.map (fun e => (e.key, e.val)) := by rw [hem]; exact List.mem_map.2 ⟨p, hp, rfl⟩
   obtain ⟨x, hx, ex⟩ := List.mem_map.1 this
   injection ex with e1 e2
   exact h2 x hx (by rw [e1, e])
  refine ⟨setBlock w b (.map (es.push ⟨.string key, enc x, clock⟩) (clock + 1)), ?_, ⟨_, _, m ++ [(key, x)], heap_setBlock_same hb _, ?_, ?_, fun k => ?_, stp_push hst⟩, grow _⟩
  ·
   simp [Instr.mapUpdate, run_underlying ht, MapKept.run_getObj_map hb, run_checkKey hk (d := .string) (k := .string key) trivial, run_findKey hk h1, MapKept.run_setObj_map _ hb, Result.andThen, setBlock]
  ·
   rw [Array.toList_push, List.map_append, List.map_append, hem]; rfl
  ·
   rw [List.map_append, List.nodup_append]
   refine ⟨hnd, List.nodup_cons.2 ⟨by simp, List.nodup_nil⟩, fun a ha b hb => ?_⟩
   obtain ⟨p, hp, rfl⟩ := List.mem_map.1 ha
   rw [List.mem_singleton.1 hb]
   exact hno p hp
  ·
   show (if k = key then some x else f k) = _
   rw [List.find?_append]
   by_cases e : k = key
   ·
    subst e
    have : m.find? (fun p => decide (p.1 = k)) = none := List.find?_eq_none.2 (fun p hp => by simpa using hno p hp)
    rw [this, if_pos rfl]
    simp
   ·
    rw [if_neg e, hf]
    have e' : ¬ key = k := fun q => e q.symm
    cases m.find? (fun p => decide (p.1 = k)) <;> simp [e']
 ·
  obtain ⟨p, hp, e1, e2⟩ := at_of hem (by simpa using h2)
  have ek : p.1 = key := by
   rw [h3] at e1
   injection e1 with e1
   exact e1.symm
  have hj : es[j]? = some e0 := by simpa using h2
  have hjl : j < es.size := (Array.getElem?_eq_some_iff.1 hj).1
  refine ⟨setBlock w b (.map (es.modify j fun e => { e with key := .string key, val := enc x }) clock), ?_, ⟨_, _, m.set j (key, x), heap_setBlock_same hb _, ?_, ?_, fun k => ?_, stp_modify hst⟩, grow _⟩
  ·
   simp [Instr.mapUpdate, run_underlying ht, MapKept.run_getObj_map hb, run_checkKey hk (d := .string) (k := .string key) trivial, run_findKey hk h1, hj, h3, run_keyThatStays (d := .string) (k := .string key) trivial, MapKept.run_setObj_map _ hb, Result.andThen, setBlock]
  ·
   apply List.ext_getElem?
   intro i
   have h4 := congrArg (fun l => l[i]?) hem
   simp only [List.getElem?_map, Array.getElem?_toList, Array.getElem?_modify, List.getElem?_set] at h4 ⊢
   by_cases hij : j = i
   ·
    subst hij
    have hjm : j < m.length := (List.getElem?_eq_some_iff.1 hp).1
    simp [hj, hjm]
   ·
    simp [hij, h4]
  ·
   have : (m.set j (key, x)).map (·.1) = m.map (·.1) := by
    apply List.ext_getElem?
    intro i
    simp only [List.getElem?_map, List.getElem?_set]
    by_cases hij : j = i
    ·
     subst hij
     have hjm : j < m.length := (List.getElem?_eq_some_iff.1 hp).1
     have hmj : m[j] = p := (List.getElem?_eq_some_iff.1 hp).2
     simp [hp, hjm, hmj, ek]
    ·
     simp [hij]
   rw [this]; exact hnd
  ·
   have hk1 : (m.set j (key, x)).map (·.1) = m.map (·.1) := by
    apply List.ext_getElem?
    intro i
    simp only [List.getElem?_map, List.getElem?_set]
    by_cases hij : j = i
    ·
     subst hij
     have hjm : j < m.length := (List.getElem?_eq_some_iff.1 hp).1
     have hmj : m[j] = p := (List.getElem?_eq_some_iff.1 hp).2
     simp [hp, hjm, hmj, ek]
    ·
     simp [hij]
   have hjm : j < m.length := (List.getElem?_eq_some_iff.1 hp).1
   show (if k = key then some x else f k) = _
   by_cases e : k = key
   ·
    subst e
    rw [if_pos rfl]
    have := find_at (m.set j (k, x)) j (k, x) (by rw [hk1]; exact hnd) (by rw [List.getElem?_set]; simp [hjm])
    rw [this]; rfl
   ·
    rw [if_neg e, hf]
    clear hf h1 h2 h3 hem hnd hk1 hjl hj grow hb e1 e2
    induction m generalizing j with
    | nil => simp at hp
    | cons q m ih =>
     cases j with
     | zero =>
      have : q = p := by simpa using hp
      subst this
      have e' : ¬ key = k := fun r => e r.symm
      rw [List.set_cons_zero]
      have n1 : decide (key = k) = false := decide_eq_false e'
      have n2 : decide (q.1 = k) = false := by rw [ek]; exact decide_eq_false e'
      simp only [List.find?_cons, n1, n2]
     | succ j =>
      rw [List.set_cons_succ]
      by_cases hq : q.1 = k
      ·
       rw [List.find?_cons_of_pos (by simpa using hq), List.find?_cons_of_pos (by simpa using hq)]
      ·
       rw [List.find?_cons_of_neg (by simpa using hq), List.find?_cons_of_neg (by simpa using hq)]
       exact ih j (by simpa using hp) (by simpa using hjm)
end
end Go.Proofs.YtibmfjacfbpfgaaGreatDoor.MapS
/- a range over a map of the call's own, keyed by texts: which keys have come. -/
namespace Go.Proofs.YtibmfjacfbpfgaaGreatDoor.MapR
open Go.RowKit Go.MapKept Go.ChangeMaps YtibmfjacfbpfgaaGreatDoorW.PrintWords YtibmfjacfbpfgaaGreatDoorW.PrintLast YtibmfjacfbpfgaaGreatDoorW.PrintMore MapS
section
variable {α : Type} {P : Program} {enc : α → Value} {w : World} {b r : Nat} {f : ByteArray → Option α} {done : List ByteArray} {cnt : Nat}
/-- Block b is a map that answers f; block r an iterator over it that has handed out the keys 'done'; cnt keys are still to come. -/
def MapR (enc : α → Value) (w : World) (b r : Nat) (f : ByteArray → Option α) (done : List ByteArray) (cnt : Nat) : Prop :=
 ∃ (es : Array MapEntry) (clock : Nat) (m : List (ByteArray × α)) (since : Nat) (seen : Array Nat) (c0 : Nat),
  w.heap[b]? = some (.map es clock) ∧ es.toList.map (fun e => (e.key, e.val)) = m.map (fun p => (Value.string p.1, enc p.2)) ∧ (m.map (·.1)).Nodup ∧ (∀ k, f k = (m.find? (fun p => decide (p.1 = k))).map (·.2)) ∧ Stp es clock ∧
  w.heap[r]? = some (.mapIter (some b) since seen c0) ∧ (∀ x ∈ es.toList, x.born < since) ∧ since ≤ c0 ∧ since ≤ clock ∧ (leftOf es seen).size = cnt ∧
  (∀ x ∈ es.toList, ∀ k, x.key = .string k → (seen.contains x.born = true ↔ k ∈ done)) ∧ done.Nodup ∧ (∀ k ∈ done, (f k).isSome = true)
theorem MapR.map (h : MapR enc w b r f done cnt) : MapF enc w b f := by
 obtain ⟨es, clock, m, since, seen, c0, h1, h2, h3, h4, h5, _⟩ := h
 exact ⟨es, clock, m, h1, h2, h3, h4, h5⟩
theorem MapR.lt (h : MapR enc w b r f done cnt) : r < w.heap.size := by
 obtain ⟨es, clock, m, since, seen, c0, h1, h2, h3, h4, h5, h6, _⟩ := h
 exact (Array.getElem?_eq_some_iff.1 h6).1
theorem MapR.ne (h : MapR enc w b r f done cnt) : r ≠ b := by
 obtain ⟨es, clock, m, since, seen, c0, h1, h2, h3, h4, h5, h6, _⟩ := h
 intro e
 rw [e, h1] at h6
 cases h6
theorem MapR.left_eq (h : MapR enc w b r f done cnt) : w.rangeLeft b r = cnt := by
 obtain ⟨es, clock, m, since, seen, c0, h1, h2, h3, h4, h5, h6, _, _, _, hc, _⟩ := h
 simp only [World.rangeLeft, h1, h6]
 exact hc
theorem MapR.nodup (h : MapR enc w b r f done cnt) : done.Nodup := by
 obtain ⟨es, clock, m, since, seen, c0, _, _, _, _, _, _, _, _, _, _, _, hd, _⟩ := h
 exact hd
theorem MapR.some (h : MapR enc w b r f done cnt) : ∀ k ∈ done, (f k).isSome = true := by
 obtain ⟨es, clock, m, since, seen, c0, _, _, _, _, _, _, _, _, _, _, _, _, hd⟩ := h
 exact hd
theorem MapR.move {w1 : World} (h : MapR enc w b r f done cnt) (e1 : w1.heap[b]? = w.heap[b]?) (e2 : w1.heap[r]? = w.heap[r]?) : MapR enc w1 b r f done cnt := by
 obtain ⟨es, clock, m, since, seen, c0, h1, h2, h3, h4, h5, h6, rest⟩ := h
 exact ⟨es, clock, m, since, seen, c0, e1.trans h1, h2, h3, h4, h5, e2.trans h6, rest⟩
theorem MapR.below {w1 : World} (h : MapR enc w b r f done cnt) (hb : Below w.heap.size w w1) : MapR enc w1 b r f done cnt := h.move (hb.block b h.map.lt) (hb.block r h.lt)
theorem MapR.kept {w1 : World} {row : Option Nat} (h : MapR enc w b r f done cnt) (hg : w.grownBy w1 row) (h1 : Option.some b ≠ row) (h2 : Option.some r ≠ row) : MapR enc w1 b r f done cnt := h.move (hg.block b h.map.lt h1) (hg.block r h.lt h2)
/-- The range begins. -/
theorem MapF.range {t kT eT : TypeId} (ht : P.underlying t = Option.some (.map kT eT)) (h : MapF enc w b f) :
  ∃ clock cnt, (Instr.range t (.map (Option.some b))).run P w = .ok (.pointer (Option.some ⟨w.heap.size, 0, none⟩)) (w.alloc (.mapIter (Option.some b) clock #[] clock)) ∧ MapR enc (w.alloc (.mapIter (Option.some b) clock #[] clock)) b w.heap.size f [] cnt := by
 have hlt := h.lt
 obtain ⟨es, clock, m, h1, h2, h3, h4, h5⟩ := h
 refine ⟨clock, _, run_range_map w t kT eT b es clock ht h1, es, clock, m, clock, #[], clock, ((MapKept.heap_alloc w _).2 b hlt).trans h1, h2, h3, h4, h5, (MapKept.heap_alloc w _).1, fun x hx => h5.1 _ (List.mem_map.2 ⟨x, hx, rfl⟩), Nat.le_refl _, Nat.le_refl _, rfl, fun x hx k hk => ?_, List.nodup_nil, fun k hk => absurd hk (by simp)⟩
 simp
theorem nodup_apart : ∀ {l : List MapEntry}, (l.map (·.key)).Nodup → l.Pairwise (fun x y => x.key ≠ y.key)
 | [], _ => List.Pairwise.nil
 | x :: l, h => by
  have h' : (x.key :: l.map (·.key)).Nodup := h
  obtain ⟨h1, h2⟩ := List.nodup_cons.1 h'
  exact List.pairwise_cons.2 ⟨fun y hy e => h1 (List.mem_map.2 ⟨y, hy, e.symm⟩), nodup_apart h2⟩
theorem strs_nodup : ∀ {l : List ByteArray}, l.Nodup → (l.map Value.string).Nodup
 | [], _ => List.nodup_nil
 | x :: l, h => by
  obtain ⟨h1, h2⟩ := List.nodup_cons.1 h
  refine List.nodup_cons.2 ⟨fun hm => ?_, strs_nodup h2⟩
  obtain ⟨y, hy, e⟩ := List.mem_map.1 hm
  injection e with e
  exact h1 (e ▸ hy)
theorem keys_map {es : Array MapEntry} {m : List (ByteArray × α)} (h : es.toList.map (fun e => (e.key, e.val)) = m.map (fun p => (Value.string p.1, enc p.2))) : es.toList.map (·.key) = (m.map (·.1)).map Value.string := by
 have := congrArg (List.map Prod.fst) h
 rw [List.map_map, List.map_map] at this
 rw [List.map_map]
 exact this
/-- The step: nothing is left, or a key that has not come yet. -/
theorem MapR.next (h : MapR enc w b r f done cnt) (ty : TypeId) :
  (cnt = 0 ∧ (∀ k, (f k).isSome = true → k ∈ done) ∧ (Instr.next (.pointer (Option.some ⟨r, 0, none⟩)) false ty).run P w = .ok (.tuple #[.bool false]) w) ∨
  ∃ (k : ByteArray) (v : α) (w' : World) (cnt' : Nat), f k = Option.some v ∧ k ∉ done ∧ (Instr.next (.pointer (Option.some ⟨r, 0, none⟩)) false ty).run P w = .ok (.tuple #[.bool true, .string k, enc v]) w' ∧
   MapR enc w' b r f (done ++ [k]) cnt' ∧ cnt' < cnt ∧ w.grownBy w' (Option.some r) ∧ w'.heap.size = w.heap.size ∧ (Instr.entry (.pointer (Option.some ⟨r, 0, none⟩))).run P w' = .ok (.tuple #[.string k, enc v]) w' := by
 have hne := h.ne
 obtain ⟨es, clock, m, since, seen, c0, hb, hem, hnd, hf, hst, hr, hold, hsc, hsk, rfl, hdone, hdn, hds⟩ := h
 have hap := nodup_apart (l := es.toList) (by rw [keys_map hem]; exact strs_nodup hnd)
 rcases run_next_at (P := P) w ty r b since c0 seen es clock hr hb hold hsc with ⟨h0, hrun⟩ | ⟨e, he, w1, hal, hrun⟩
 ·
  refine Or.inl ⟨h0, fun k hk => ?_, hrun⟩
  rw [hf] at hk
  cases hm : m.find? (fun p => decide (p.1 = k)) with
  | none => rw [hm] at hk; cases hk
  | some p =>
   have hp := List.mem_of_find?_eq_some hm
   have hpk : p.1 = k := by simpa using List.find?_some hm
   have : (Value.string p.1, enc p.2) ∈ es.toList.map (fun e => (e.key, e.val)) := by rw [hem]; exact List.mem_map.2 ⟨p, hp, rfl⟩
   obtain ⟨x, hx, ex⟩ := List.mem_map.1 this
   injection ex with e1 e2
   exact (hdone x hx k (by rw [e1, hpk])).1 (all_seen es seen h0 x hx)
 ·
  obtain ⟨hem1, hes⟩ := mem_left he
  obtain ⟨j, hj, hje⟩ := List.mem_iff_getElem.1 hem1
  obtain ⟨p, hp, ek, ev⟩ := at_of hem (j := j) (e0 := e) (by rw [List.getElem?_eq_getElem hj, hje])
  have hfp : f p.1 = Option.some p.2 := by rw [hf, find_at m j p hnd hp]; rfl
  have hr1 : w1.heap[r]? = Option.some (.mapIter (Option.some b) since seen c0) := by rcases hal with rfl | rfl <;> exact hr
  have hb1 : w1.heap[b]? = Option.some (.map es clock) := by rcases hal with rfl | rfl <;> exact hb
  have hset := heap_set (o' := .mapIter (Option.some b) since (seen.push e.born) clock) hr1
  have hb' : (setBlock w1 r (.mapIter (Option.some b) since (seen.push e.born) clock)).heap[b]? = Option.some (.map es clock) := (hset.2 b (fun e1 => hne e1.symm)).trans hb1
  have hnot : p.1 ∉ done := fun hin => by
   have := (hdone e hem1 p.1 ek).2 hin
   rw [hes] at this
   cases this
  have hrun2 := hrun
  rw [ek, ev] at hrun2
  have hent := run_entry_at (P := P) _ r b since seen es clock e hset.1 hb' hem1 hst.2
  rw [ek, ev] at hent
  refine Or.inr ⟨p.1, p.2, _, _, hfp, hnot, hrun2, ⟨es, clock, m, since, seen.push e.born, clock, hb', hem, hnd, hf, hst, hset.1, hold, hsk, hsk, rfl, fun x hx k hk => ?_, ?_, fun k hk => ?_⟩, left_shrinks es seen e he, ?_, ?_, hent⟩
  ·
   rw [contains_push, Bool.or_eq_true, List.mem_append, List.mem_singleton, hdone x hx k hk]
   refine or_congr Iff.rfl ⟨fun hbb => ?_, fun hkk => ?_⟩
   ·
    have hbb : x.born = e.born := by simpa using hbb
    have := born_inj hst.2 hx hem1 hbb
    subst this
    rw [hk] at ek
    injection ek
   ·
    have := entry_eq_of_key hap hx hem1 (by rw [hk, ek, hkk])
    rw [this]
    simp
  ·
   rw [List.nodup_append]
   refine ⟨hdn, List.nodup_cons.2 ⟨by simp, List.nodup_nil⟩, fun a ha c hc e1 => ?_⟩
   have : c = p.1 := by simpa using hc
   exact hnot (by rw [← this, ← e1]; exact ha)
  ·
   rcases List.mem_append.1 hk with h1 | h1
   ·
    exact hds k h1
   ·
    have : k = p.1 := by simpa using h1
    rw [this, hfp]; rfl
  ·
   rcases hal with rfl | rfl <;> exact ⟨rfl, rfl, rfl, by simp [setBlock], fun i _ hi => hset.2 i (fun e1 => hi (by rw [e1]))⟩
  ·
   rcases hal with rfl | rfl <;> simp [setBlock]
end
end Go.Proofs.YtibmfjacfbpfgaaGreatDoor.MapR
