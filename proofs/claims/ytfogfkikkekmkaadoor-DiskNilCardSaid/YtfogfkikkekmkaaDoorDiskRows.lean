/- disk: slices.Insert at the end, slices.Delete of one, slices.Clone, over items. -/
import Derived.Test.YtfogfkikkekmkaaDoorDiskSmall
import Derived.Laws.IdiomCopy
import Derived.Maps.AppendAt
set_option linter.unusedVariables false
set_option linter.unusedSimpArgs false
namespace Go.Proofs.YtfogfkikkekmkaaDoor.DiskRows
open Go.RowKit Go.Proofs.YtfogfkikkekmkaaDoorW.PrintWords Go.Proofs.YtfogfkikkekmkaaDoorW.PrintLast Go.Proofs.YtfogfkikkekmkaaDoorW.PrintMore Go.Proofs.YtfogfkikkekmkaaDoor.Item Go.Proofs.YtfogfkikkekmkaaDoor.DiskAt Go.Proofs.YtfogfkikkekmkaaDoor.DiskSmall

/-- One item in a block of its own, read as a row of one. -/
theorem one_reads {W : World} {b : Nat} {y : It} (h : ∀ j u, (cellsI y)[j]? = some u → W.cell? ⟨b, j, none⟩ = some u) : ItemC W (some ⟨b, 0, none⟩) [y] :=
  ⟨rfl, by simp, fun _ => ⟨_, rfl, fun j p hj => by
    cases j with
    | succ j => simp at hj
    | zero =>
      have : y = p := by simpa using hj
      subst this
      exact ⟨cellsI y, rfl, itemK_mk _ _, fun i u hu => by rw [show (0 * itemK.sz + i) = i by omega, Addr.add_lit, Nat.zero_add]; exact h i u hu⟩⟩⟩
theorem infoItem1 : (Tryd.prog.info? 57).map (·.size) = some 8 := by kernel_rfl
theorem ats_same {P : Program} {t u e : TypeId} (ht : P.underlying t = some (.slice e)) (hu : P.underlying u = some (.slice e)) {i : TypeInfo} (hi : P.info? e = some i) (ty : TypeId) (B : Option Addr) (k l : Nat) (A : Option Addr) (m c : Nat) (W : World) :
    (Builtin.append_ #[t, u] ty #[.slice B k l, .slice A m c]).run P W = (Builtin.append_ #[t, t] ty #[.slice B k l, .slice A m c]).run P W := by
  simp [Builtin.append_, run_underlying ht, run_underlying hu, sizeOf, typeInfo, hi, Sem.run_bind]
set_option maxRecDepth 100000 in
/-- One item appended, out of a row of one. -/
theorem run_append_item {n : Nat} {v : Value} {s : List It} {y : It} {W : World} (h : itemK.R 57 W n (fun _ => True) v s) (ad : Addr) (c ty : Nat) (hy : ItemC W (some ad) [y]) (hn : n ≤ W.heap.size) (hs : s.length ≤ 1000000) :
    ∃ v1 w1, (Builtin.append_ #[66, 22] ty #[v, .slice (some ad) 1 c]).run Tryd.prog W = .ok v1 w1 ∧ itemK.R 57 w1 n (fun _ => True) v1 (s ++ [y]) ∧ W.grownBy w1 v.ownBlock ∧ (v1.ownBlock = v.ownBlock ∨ ∃ b, v1.ownBlock = some b ∧ W.heap.size ≤ b) := by
  obtain ⟨A0, c0, rfl⟩ := Kd.R_slice h
  obtain ⟨hok, inner, hown, hr⟩ := h
  obtain ⟨i0, hi, hzz⟩ := Option.map_eq_some_iff.1 infoItem
  simp only [Prod.mk.injEq] at hzz
  obtain ⟨hz0, hz1, hz2⟩ := hzz
  have hcell : ∀ j u, (cellsI y)[j]? = some u → W.cell? (ad.add j) = some u := by
    intro j u hu
    obtain ⟨ad', e, hc⟩ := hy.2.2 (by simp)
    injection e with e
    subst e
    obtain ⟨cs, hl, hK, hcc⟩ := hc 0 y rfl
    have := itemK_K hK
    subst this
    have h1 := hcc j u hu
    rw [show 0 * itemK.sz + j = j by omega] at h1
    exact h1
  obtain ⟨v1, w1, hrun, hown1, hg, _, hat⟩ := run_append_own_at (P := Tryd.prog) W n 66 ty 57 i0 _ 8 72 Tryd.underlying66 hi hz0 hz1 hz2 rfl (by decide) _ s.length inner hown ad 1 c (cellsI y) rfl hcell (by intro u hu; exact itemK.K_one (itemK_mk W y) u hu) (by simp only [maxLen]; omega) (by omega) hn
  have hat' : v1.ownBlock = (Value.slice A0 s.length c0).ownBlock ∨ ∃ b, v1.ownBlock = some b ∧ W.heap.size ≤ b := by
    rcases hat with hat | hat
    · exact .inl hat
    · exact .inr ⟨_, hat, Nat.le_refl _⟩
  exact ⟨v1, w1, by rw [ats_same Tryd.underlying66 Tryd.underlying22 hi]; exact hrun, Kd.R_appended (okp := fun _ => False) hok hr (itemK_M W n _ y) (fun _ hk => hk.elim) (fun _ _ => trivial) hown1 hg hat', hg, hat'⟩
theorem append_by_run {P : Program} {ops : Array Oper} {rest : List Oper} {o : Oper} {a : Act} {Q : Exit → Act → World → Prop} {W w1 : World} {v u v1 : Value} {t1 t2 : TypeId} (hgd : o.guard = none) (s x : Operand)
    (ho : o.op = .call { callee := .builtin .append, args := #[s, x], argTypes := #[t1, t2] }) (hs : a.eval s = v) (hx : a.eval x = u) (hrun : (Builtin.append_ #[t1, t2] o.type #[v, u]).run P W = .ok v1 w1)
    (h : wpList P ops Q rest (a.put o.dst v1) w1) : wpList P ops Q (o :: rest) a W := by
  refine wpList_plain hgd fun K hK => ?_
  unfold Oper.wp execOp
  simp only [ho, resolve, invoke, builtin, Sem.run_bind, Sem.run_pure, Result.andThen_ok, List.map_toArray, List.map_cons, List.map_nil, hs, hx, hrun]
  exact hK _ _ h
set_option maxHeartbeats 4000000 in
set_option maxRecDepth 100000 in
theorem insert_end (n : Nat) (v : Value) (s : List It) (y : It) (ad : Addr) (cb : Nat) (W : World) (h : itemK.R 57 W n (fun _ => True) v s) (hy : ItemC W (some ad) [y]) (hn : n ≤ W.heap.size) (hs : s.length ≤ 1000000) :
    Calls Tryd.prog 70 #[v, .int .i64 s.length, .slice (some ad) 1 cb] W fun e w' => ∃ v1, e = .returned v1 ∧ itemK.R 57 w' n (fun _ => True) v1 (s ++ [y]) ∧ W.grownBy w' v.ownBlock ∧ (v1.ownBlock = v.ownBlock ∨ ∃ b, v1.ownBlock = some b ∧ W.heap.size ≤ b) := by
  obtain ⟨A, c, rfl, hcap, hC⟩ := Kd.R_reads h
  obtain ⟨v1, w1, hrun, hr1, hg1, ha1⟩ := run_append_item h ad cb 66 hy hn hs
  have HRUN := Lib.hid hrun
  have HF := Lib.hid (And.intro hr1 (And.intro hg1 ha1))
  clear h hy hC hrun hr1 hg1 ha1
  have hcI : (s.length : Int) ≤ (c : Int) := by omega
  go_enter Tryd.func70, Tryd.ntmps70
  go_wp2_with (first | ((with_reducible refine gate_builtin (b := .append) (xs := #[.tmp 23, .tmp 24]) rfl ?_); at_builtin; refine append_by_run rfl (.tmp 23) (.tmp 24) rfl rfl rfl HRUN.out ?_))
  all_goals go_ret
  all_goals first
    | exact ⟨_, rfl, HF.out.1, HF.out.2.1, HF.out.2.2⟩
    | (refine ⟨_, rfl, HF.out.1, ?_⟩
       have h := HF.out.2
       cases A <;> exact h)
theorem grown_trans {a b c : World} {row : Option Nat} (h : a.grownBy b row) (k : b.grownBy c row) : a.grownBy c row :=
  ⟨k.os.trans h.os, k.tape.trans h.tape, k.output.trans h.output, Nat.le_trans h.size k.size, fun i hi hr => (k.block i (Nat.lt_of_lt_of_le hi h.size) hr).trans (h.block i hi hr)⟩
theorem own_beyond {W : World} {n g m c o : Nat} {ok : Nat → Prop} {xs : List It} {vs : List Value} (h : itemK.R 57 W n ok (.slice (some ⟨g, 0, none⟩) m c) xs) (ho : m * 8 ≤ o) (hl : o + vs.length ≤ c * 8) :
    itemK.R 57 (W.setCells g o vs) n ok (.slice (some ⟨g, 0, none⟩) m c) xs ∧ W.grownBy (W.setCells g o vs) (some g) ∧ ∃ cur, W.heap[g]? = some (.cells cur 57 (0, 0)) ∧ cur.size = c * 8 := by
  obtain ⟨hok, inner, ⟨hil, hown⟩, hr⟩ := h
  rcases hown with ⟨e, _⟩ | ⟨g', cap, cur, e, hb, hh, h1, h2, h3, h4⟩
  · cases e
  · injection e with e1 e2 e3
    injection e1 with e1
    injection e1 with e1
    subst e1 e2 e3
    have h3' : cur.size = c * 8 := h3
    obtain ⟨cur', k1, k2, k3⟩ := setCells_row vs o W cur hh (by omega)
    obtain ⟨s1, s2, s3, s4⟩ := setCells_same g vs o W
    refine ⟨⟨hok, inner, ⟨hil, .inr ⟨g, c, cur', rfl, hb, k1, h1, h2, by rw [k2]; exact h3, ?_⟩⟩, hr.imp_ (fun x cs hM => ?_)⟩, ⟨s1, s2, s3, by rw [s4]; exact Nat.le_refl _, fun k _ hk => setCells_far vs o k (fun e => hk (by rw [e]))⟩, cur, hh, h3'⟩
    · have hlen : (cur.toList.take o).length = o := by rw [List.length_take, Array.length_toList]; omega
      have h4' : cur.toList.take (xs.length * 8) = inner := h4
      show cur'.toList.take (xs.length * 8) = inner
      rw [k3, List.append_assoc, List.take_append_of_le_length (by rw [hlen]; exact ho), List.take_take, Nat.min_eq_left ho]
      exact h4'
    · rw [itemK_K (itemK.K_of_M hM)]
      exact itemK_M _ _ _ _
abbrev zerosI : List Value := [.string ByteArray.empty, .int .i64 0, .int .u32 0, .int .u32 0, .int .u32 0, .int .i64 0, .int .i64 0, .string ByteArray.empty]
theorem run_clear_item (W : World) (ty : TypeId) (g o c : Nat) (hc : ∀ j, j < 8 → (W.cell? ⟨g, o + j, none⟩).isSome = true) (hf : ∀ j, j < 8 → W.frozen? ⟨g, o + j, none⟩ = false) :
    (Builtin.clear_ #[66] ty #[.slice (some ⟨g, o, none⟩) 1 c]).run Tryd.prog W = .ok (.tuple #[]) (W.setCells g o zerosI) := by
  have hst := run_storeCells_cells (P := Tryd.prog) g o zerosI 0 W (by simpa using hc) (by simpa using hf) (by intro v hv; exact itemK.K_one (itemK_mk W (ByteArray.empty, 0, 0, 0, 0, 0, 0, ByteArray.empty)) v hv)
  simp only [Nat.add_zero] at hst
  obtain ⟨i0, hi, hzz⟩ := Option.map_eq_some_iff.1 infoItem
  simp only [Prod.mk.injEq] at hzz
  obtain ⟨hz0, _, _⟩ := hzz
  obtain ⟨z, hz1, hz2⟩ : ∃ z, i0.zero = some z ∧ (Builtin.zeroCells z.cells 1).toList = zerosI := ⟨_, hz0, by
    simp [Builtin.zeroCells, Value.cells]
    rfl⟩
  generalize zerosI = zs at *
  simp [Builtin.clear_, run_underlying Tryd.underlying66, zeroValue, typeInfo, hi, hz1, hz2, hst]
theorem clear_by_run {P : Program} {ops : Array Oper} {rest : List Oper} {o : Oper} {a : Act} {Q : Exit → Act → World → Prop} {W w1 : World} {u v1 : Value} {t1 : TypeId} (hgd : o.guard = none) (x : Operand)
    (ho : o.op = .call { callee := .builtin .clear, args := #[x], argTypes := #[t1] }) (hx : a.eval x = u) (hrun : (Builtin.clear_ #[t1] o.type #[u]).run P W = .ok v1 w1)
    (h : wpList P ops Q rest (a.put o.dst v1) w1) : wpList P ops Q (o :: rest) a W := by
  refine wpList_plain hgd fun K hK => ?_
  unfold Oper.wp execOp
  simp only [ho, resolve, invoke, builtin, Sem.run_bind, Sem.run_pure, Result.andThen_ok, List.map_toArray, List.map_cons, List.map_nil, hx, hrun]
  exact hK _ _ h
set_option maxHeartbeats 4000000 in
set_option maxRecDepth 100000 in
theorem delete_one (n g k c : Nat) (s : List It) (W : World) (h : itemK.R 57 W n (fun _ => True) (.slice (some ⟨g, 0, none⟩) s.length c) s) (hk : k < s.length) (hn : n ≤ W.heap.size) (hs : s.length ≤ 1000000) :
    Calls Tryd.prog 69 #[.slice (some ⟨g, 0, none⟩) s.length c, .int .i64 k, .int .i64 ((k : Int) + 1)] W fun e w' => e = .returned (.slice (some ⟨g, 0, none⟩) (s.length - 1) c) ∧ itemK.R 57 w' n (fun _ => True) (.slice (some ⟨g, 0, none⟩) (s.length - 1) c) (s.eraseIdx k) ∧ W.grownBy w' (some g) := by
  have HR := Lib.hid h
  obtain ⟨A, c', he, hcap, _⟩ := Kd.R_reads h
  injection he with h1 h2 h3
  subst h1
  subst h3
  clear h h2
  have hkI : (k : Int) < (s.length : Int) := by omega
  have hk1 : ¬ (k : Int) = (k : Int) + 1 := by omega
  have hkc : k ≤ c := by omega
  have hk2 : (k : Int) + 1 ≤ (s.length : Int) := by omega
  have hk0 : (0 : Int) ≤ (k : Int) + 1 := by omega
  have hcI : (s.length : Int) ≤ (c : Int) := by omega
  go_enter Tryd.func69, Tryd.ntmps69
  go_wp2
  refine start_ (n := 8) (S := fun w' => True) (ds := []) #[false, false, false, false, false, false, false, false] (by kernel_rfl) rfl rfl trivial (fun hHeld => ?_)
  have HRW := Lib.hid (Kd.R_below HR.out (below_drew (Below.refl W.heap.size W)))
  have hn4 : n ≤ W.drew.heap.size := hn
  have HGW : Hid (W.grownBy W.drew (some g)) := Lib.hid ⟨rfl, rfl, rfl, Nat.le_refl _, fun _ _ _ => rfl⟩
  generalize W.drew = W4 at *
  refine pure_ (i := 0) (N := some 20) (v := ?_) (a' := ?_) #[true, false, false, false, false, false, false, false] rfl rfl (by kernel_rfl) (fun _ _ _ h => h) (Or.inl ⟨by rfl, ?_⟩) ?_ ?_
  rotate_left
  · intro w'
    go_simp
    with_reducible rfl
  rotate_left
  · simp only [Act.put, List.setIfInBounds_toArray, List.set_cons_zero, List.set_cons_succ, i64_w, i32_w]
    rfl
  refine pure_ (i := 1) (N := some 21) (v := ?_) (a' := ?_) #[true, true, false, false, false, false, false, false] rfl rfl (by kernel_rfl) (fun _ _ _ h => h) (Or.inl ⟨by rfl, ?_⟩) ?_ ?_
  rotate_left
  · intro w'
    go_simp
    with_reducible rfl
  rotate_left
  · simp only [Act.put, List.setIfInBounds_toArray, List.set_cons_zero, List.set_cons_succ, i64_w, i32_w]
    rfl
  refine pure_ (i := 2) (N := some 22) (v := ?_) (a' := ?_) #[true, true, true, false, false, false, false, false] rfl rfl (by kernel_rfl) (fun _ _ _ h => h) (Or.inl ⟨by rfl, ?_⟩) ?_ ?_
  rotate_left
  · intro w'
    go_simp
    with_reducible rfl
  rotate_left
  · simp only [Act.put, List.setIfInBounds_toArray, List.set_cons_zero, List.set_cons_succ, i64_w, i32_w]
    rfl
  refine pure_ (i := 3) (N := some 23) (v := ?_) (a' := ?_) #[true, true, true, true, false, false, false, false] rfl rfl (by kernel_rfl) (fun _ _ _ h => h) (Or.inl ⟨by rfl, ?_⟩) ?_ ?_
  rotate_left
  · intro w'
    go_simp
    with_reducible rfl
  rotate_left
  · simp only [Act.put, List.setIfInBounds_toArray, List.set_cons_zero, List.set_cons_succ, i64_w, i32_w]
    rfl
  refine pure_ (i := 4) (N := some 24) (v := ?_) (a' := ?_) #[true, true, true, true, true, false, false, false] rfl rfl (by kernel_rfl) (fun _ _ _ h => h) (Or.inl ⟨by rfl, ?_⟩) ?_ ?_
  rotate_left
  · intro w'
    go_simp
    with_reducible rfl
  rotate_left
  · simp only [Act.put, List.setIfInBounds_toArray, List.set_cons_zero, List.set_cons_succ, i64_w, i32_w]
    rfl
  refine pure_ (i := 5) (N := some 25) (v := ?_) (a' := ?_) #[true, true, true, true, true, true, false, false] rfl rfl (by kernel_rfl) (fun _ _ _ h => h) (Or.inl ⟨by rfl, ?_⟩) ?_ ?_
  rotate_left
  · intro w'
    go_simp
    with_reducible rfl
  rotate_left
  · simp only [Act.put, List.setIfInBounds_toArray, List.set_cons_zero, List.set_cons_succ, i64_w, i32_w]
    rfl
  refine one_ (i := 6) (N := some 26) #[true, true, true, true, true, true, true, false] rfl rfl (by kernel_rfl) (by decide) (fun K hK => ?_)
  refine Kd.R_delete_step (xs := s) (ok := fun _ => True) itemK (w0 := W4) n (by rfl) (.tmp 22) (.tmp 25) 66 57 rfl Tryd.underlying66 infoItem1 rfl rfl ?dA rfl ?dO ?dK ?dB ?dS ?_
  (case dA => rw [show (some (⟨g, 0, none⟩ : Addr)).map (·.add ((k + 1) * itemK.sz)) = some ⟨g, (k + 1) * 8, none⟩ from by rw [Option.map_some, Addr.add_lit, Nat.zero_add]; rfl])
  (case dO => exact HRW.out)
  (case dK => omega)
  (case dB => exact Below.refl _ _)
  (case dS => exact hn4)
  intro w5 ho hb5 hg5
  have HO5 := Lib.hid ho
  have HG5 := Lib.hid hg5
  clear ho hb5 hg5
  refine hK.out _ _ trivial (fun hHeld => ?_)
  clear hK K
  refine norm_ (a' := ?_) ?_ ?_
  rotate_left
  · show Act.put _ (some 26) _ = _
    simp only [Act.put, List.setIfInBounds_toArray, List.set_cons_zero, List.set_cons_succ, i64_w, i32_w]
    rfl
  refine pure_ (i := 7) (N := some 0) (v := ?_) (a' := ?_) #[true, true, true, true, true, true, true, true] rfl rfl (by kernel_rfl) (fun _ _ _ h => h) (Or.inl ⟨by rfl, ?_⟩) ?_ ?_
  rotate_left
  · intro w'
    go_simp
    with_reducible rfl
  rotate_left
  · simp only [Act.put, List.setIfInBounds_toArray, List.set_cons_zero, List.set_cons_succ, i64_w, i32_w]
    rfl
  refine done_ (by kernel_rfl) ?_

  have hcm : ¬ c = s.length - 1 := by omega
  have hsm : s.length - (s.length - 1) = 1 := by omega
  have hmI : ((s.length - 1 : Nat) : Int) ≤ (s.length : Int) := by omega
  have hown := own_beyond (o := (s.length - 1) * 8) (vs := zerosI) HO5.out (Nat.le_refl _) (by show _ + 8 ≤ _; omega)
  obtain ⟨hr6, hg6, cur, hcur, hcs⟩ := hown
  have HO6 := Lib.hid hr6
  have HG6 := Lib.hid hg6
  have HRUN := Lib.hid (run_clear_item w5 0 g ((s.length - 1) * 8) (c - (s.length - 1)) (fun j hj => by rw [cell_of hcur, Array.getElem?_eq_getElem (by omega)]; rfl) (fun j _ => frozen_of hcur _))
  clear hr6 hg6 hcur hcs
  go_wp2_with (first | ((with_reducible refine gate_builtin (b := .clear) (xs := #[.tmp 31]) rfl ?_); refine clear_by_run rfl (.tmp 31) rfl rfl HRUN.out ?_))
  all_goals go_ret
  all_goals first
    | exact ⟨rfl, HO6.out, grown_trans (grown_trans HGW.out HG5.out) HG6.out⟩
    | (have hck : c = k + 1 := by assumption
       rw [← hck]
       exact ⟨rfl, HO6.out, grown_trans (grown_trans HGW.out HG5.out) HG6.out⟩)
end Go.Proofs.YtfogfkikkekmkaaDoor.DiskRows
