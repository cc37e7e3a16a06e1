/- tree.Differ: two maps ranged over in whatever order; what was collected is sorted. -/
import Derived.Test.YtibmfjacfbpfgaaGreatDoorRefB
import Derived.Test.YtibmfjacfbpfgaaGreatDoorMapA
import Derived.Test.YtibmfjacfbpfgaaGreatDoorSortStr
import Derived.Test.YtibmfjacfbpfgaaGreatDoorFillA
set_option linter.unusedVariables false
set_option linter.unusedSimpArgs false
namespace Go.Proofs.YtibmfjacfbpfgaaGreatDoor.TreeDiff
open Go.RowKit YtibmfjacfbpfgaaGreatDoorW.PrintWords YtibmfjacfbpfgaaGreatDoorW.PrintLast YtibmfjacfbpfgaaGreatDoorW.PrintMore YtibmfjacfbpfgaaGreatDoor.Item Own MapS MapR TreeLaw NameLaw NameWalk NameOrd NameRef NameUse SortIns NodeRes TreeRef TreeNodes RSort DiffLaw TreeRef2 TreeRDiff OrderEq SortStr
theorem ne_own2 {α β : Type} {d : Kd β} {e base : Nat} {ok : Nat → Prop} {v : Value} {xs : List β} {enc : α → Value} {w : World} {b : Nat} {f : ByteArray → Option α} (h : MapF enc w b f) (hr : d.R e w base ok v xs) (e1 : some b = v.ownBlock) : False := by
 obtain ⟨_, _, _, q, _, cs, hc⟩ := (Kd.R_bound hr).1 b e1.symm
 obtain ⟨es, clock, m, hb, _⟩ := h
 rw [hb] at hc
 cases hc
theorem nodup_len : ∀ {l m : List ByteArray}, l.Nodup → (∀ x ∈ l, x ∈ m) → l.length ≤ m.length
 | [], _, _, _ => Nat.zero_le _
 | x :: l, m, h, hs => by
  obtain ⟨h1, h2⟩ := List.nodup_cons.1 h
  obtain ⟨m1, m2, rfl⟩ := List.append_of_mem (hs x (by simp))
  have := nodup_len (m := m1 ++ m2) h2 (fun y hy => by
   have hy2 := hs y (by simp [hy])
   rcases List.mem_append.1 hy2 with e | e
   ·
    exact List.mem_append.2 (.inl e)
   ·
    rcases List.mem_cons.1 e with e | e
    ·
     exact absurd (e ▸ hy) h1
    ·
     exact List.mem_append.2 (.inr e))
  rw [List.length_append] at this
  rw [List.length_append, List.length_cons, List.length_cons]
  omega
theorem keys_len {l : List It} {d : List ByteArray} (h : d.Nodup) (hs : ∀ k ∈ d, (nodeP l k).isSome = true) : d.length ≤ l.length := by
 have := nodup_len (m := l.map (·.1)) h (fun x hx => by
  obtain ⟨y, hy, e⟩ := node_isSome.1 (hs x hx)
  exact List.mem_map.2 ⟨y, hy, e⟩)
 rw [List.length_map] at this
 exact this
theorem filt_more1 (p : ByteArray → Bool) (d : List ByteArray) {k : ByteArray} (h : p k = true) : (d ++ [k]).filter p = d.filter p ++ [k] := by
 rw [List.filter_append, List.filter_cons, if_pos h, List.filter_nil]
theorem filt_more0 (p : ByteArray → Bool) (d : List ByteArray) {k : ByteArray} (h : p k = false) : (d ++ [k]).filter p = d.filter p := by
 rw [List.filter_append, List.filter_cons, if_neg (by rw [h]; simp), List.filter_nil, List.append_nil]
set_option maxHeartbeats 32000000 in
set_option maxRecDepth 100000 in
theorem tdiffer_any (t u : List It) (A : Option Addr) (c : Nat) (Bd : Option Addr) (d : Nat) (W : World) (hg : Glob W) (ht : ItemC W A t) (hu : ItemC W Bd u) (hn : t.length ≤ 300) (hm : u.length ≤ 300) (hs : ∀ x ∈ t, x.1.size ≤ 10000) (hs2 : ∀ x ∈ u, x.1.size ≤ 10000) :
  Calls Tryz.prog 45 #[.slice A t.length c, .slice Bd u.length d] W fun e w' => ∃ v, e = .returned v ∧ Kd.string.R 9 w' W.heap.size (fun _ => True) v (difP t u) ∧ Below W.heap.size W w' := by
 have HG := Lib.hid hg
 have HU := Lib.hid hu
 have HN1 := Lib.hid (nodes_any t A c W ht)
 have HKT : Hid (∀ k, (nodeP t k).isSome = true → k.size ≤ 10000) := Lib.hid (fun k hk => by obtain ⟨x, hx, e⟩ := node_isSome.1 hk; rw [← e]; exact hs x hx)
 have HKU : Hid (∀ k, (nodeP u k).isSome = true → k.size ≤ 10000) := Lib.hid (fun k hk => by obtain ⟨x, hx, e⟩ := node_isSome.1 hk; rw [← e]; exact hs2 x hx)
 obtain ⟨R, hR⟩ : ∃ R, R = difP t u := ⟨_, rfl⟩
 have HR := Lib.hid hR
 rw [← hR]
 clear hR hg ht hu hs hs2
 go_enter Tryz.func45, Tryz.ntmps45
 go_wp2_with fail
 refine HN1.out.mono ?_
 rintro e w1 ⟨ba, rfl, hba, hma, hb⟩
 have HN2 := Lib.hid (nodes_any u Bd d w1 (Kd.C_below HU.out hb))
 have HMA := Lib.hid hma
 have HBA := Lib.hid hba
 have HB := Lib.hid hb
 clear hb hma hba HN1 HU
 go_wp2_with fail
 refine HN2.out.mono ?_
 rintro e w2 ⟨bb, rfl, hbb, hmb, hb⟩
 have HNab : Hid (ba ≠ bb) := Lib.hid (by have := HMA.out.lt; omega)
 have HMA := Lib.hid (HMA.out.below hb)
 have HMB := Lib.hid hmb
 have HBB : Hid (W.heap.size ≤ bb) := Lib.hid (Nat.le_trans HB.out.size hbb)
 have HB := Lib.hid (below_next HB.out hb)
 obtain ⟨clock, cnt0, hrg, hmr⟩ := MapR.MapF.range (P := Tryz.prog) (t := 125) (kT := 9) (eT := 34) (by kernel_rfl) HMA.out
 have hb1 := below_one w2 (.mapIter (some ba) clock #[] clock)
 have HM0 := Lib.hid hmr
 have HN0 := Lib.hid (HMB.out.below hb1)
 have HB0 := Lib.hid (below_next HB.out hb1)
 have HRL : Hid (W.heap.size ≤ w2.heap.size) := Lib.hid HB.out.size
 have HNR : Hid (bb ≠ w2.heap.size) := Lib.hid (by have := HMB.out.lt; omega)
 clear hb hmb hbb hmr hb1 HN2 HMA HMB HB
 go_wp2
 generalize w2.alloc (.mapIter (some ba) clock #[] clock) = w3 at *
 generalize w2.heap.size = r at *
 have HF0 : Hid (([] : List ByteArray) = ([] : List ByteArray).filter (p1 t u)) := Lib.hid rfl
 go_loopw [7] (fun v wr => ∃ (done : List ByteArray) (cnt : Nat) (acc : List ByteArray), Hid True ∧ Hid (MapR aggN wr ba r (nodeP t) done cnt) ∧ Hid (MapF aggN wr bb (nodeP u)) ∧ Hid (acc = done.filter (p1 t u)) ∧ Hid (Kd.string.R 9 wr W.heap.size (fun k => k ≠ r) v acc) ∧ Hid (Below W.heap.size W wr)) (fun _ wr => wr.rangeLeft ba r)
 case atStart => exact ⟨[], cnt0, [], Lib.hid trivial, HM0, HN0, HF0, Lib.hid (Kd.R_nil _ _ _ _ _), HB0⟩
 case round =>
  clear HM0 HN0 HF0 HB0 hrg
  obtain ⟨done, cnt, acc, _, HM, HN, HA, HO, HB⟩ := hrel
  obtain ⟨Av, cv, hv⟩ := Kd.R_slice HO.out
  subst hv
  have hal : acc.length ≤ 300 := by
   have h1 := keys_len HM.out.nodup HM.out.some
   have h2 : acc.length ≤ done.length := by rw [HA.out]; exact List.length_filter_le _ _
   omega
  have HMl := Lib.hid HM.out.left_eq
  rcases HM.out.next (P := Tryz.prog) 0 with ⟨hc0, hall, hrun⟩ | ⟨key, nv, wx, cnt', hfk, hnk, hrun, hmr, hcl, hgr, hsz, hent⟩
  ·
   have HD1 : Hid (done.Nodup ∧ ∀ p, p ∈ done ↔ (nodeP t p).isSome = true) := Lib.hid ⟨HM.out.nodup, fun p => ⟨HM.out.some p, hall p⟩⟩
   have HMT := Lib.hid HM.out.map
   obtain ⟨clock2, cnt2, hrg2, hmr2⟩ := MapR.MapF.range (P := Tryz.prog) (t := 125) (kT := 9) (eT := 34) (by kernel_rfl) HN.out
   have hb1 := below_one wr (.mapIter (some bb) clock2 #[] clock2)
   have HM0 := Lib.hid hmr2
   have HN0 := Lib.hid (HMT.out.below hb1)
   have HO0 := Lib.hid (Kd.R_below (Kd.R_reok rfl HO.out (ok := fun k => k ≠ wr.heap.size) (fun k hk => by have := Kd.R_lt HO.out k hk; omega)) hb1)
   have HB0 := Lib.hid (below_next HB.out hb1)
   have HRL2 : Hid (W.heap.size ≤ wr.heap.size) := Lib.hid HB.out.size
   have HNR2 : Hid (ba ≠ wr.heap.size) := Lib.hid (by have := HMT.out.lt; omega)
   clear hb1 hmr2 HM HN HO HB HMT hall hc0 HMl HNR HRL
   go_wp2
   generalize wr.alloc (.mapIter (some bb) clock2 #[] clock2) = w4 at *
   generalize wr.heap.size = r2 at *
   clear hrun hrg2
   obtain ⟨A1, hA1⟩ : ∃ A1, A1 = acc := ⟨_, rfl⟩
   have HA1 : Hid (acc = A1 ++ ([] : List ByteArray).filter (p2 t)) := Lib.hid (by rw [hA1]; simp)
   have HAF : Hid (A1 = done.filter (p1 t u)) := Lib.hid (by rw [hA1]; exact HA.out)
   have hal1 : A1.length ≤ 300 := by rw [hA1]; exact hal
   clear hA1 HA
   go_loopw [7] (fun v wr => ∃ (done2 : List ByteArray) (cnt : Nat) (acc : List ByteArray), Hid True ∧ Hid (MapR aggN wr bb r2 (nodeP u) done2 cnt) ∧ Hid (MapF aggN wr ba (nodeP t)) ∧ Hid (acc = A1 ++ done2.filter (p2 t)) ∧ Hid (Kd.string.R 9 wr W.heap.size (fun k => k ≠ r2) v acc) ∧ Hid (Below W.heap.size W wr)) (fun _ wr => wr.rangeLeft bb r2)
   case atStart => exact ⟨[], cnt2, acc, Lib.hid trivial, HM0, HN0, HA1, HO0, HB0⟩
   case round =>
    clear HM0 HN0 HA1 HO0 HB0 hal
    obtain ⟨done2, cnt, acc, _, HM, HN, HA, HO, HB⟩ := hrel
    obtain ⟨Av, cv, hv⟩ := Kd.R_slice HO.out
    subst hv
    have hal : acc.length ≤ 600 := by
     have h1 := keys_len HM.out.nodup HM.out.some
     have h2 : (done2.filter (p2 t)).length ≤ done2.length := List.length_filter_le _ _
     rw [HA.out, List.length_append]
     omega
    have HMl := Lib.hid HM.out.left_eq
    rcases HM.out.next (P := Tryz.prog) 0 with ⟨hc0, hall, hrun⟩ | ⟨key, nv, wx, cnt', hfk, hnk, hrun, hmr, hcl, hgr, hsz, hent⟩
    ·
     have HD2 : Hid (done2.Nodup ∧ ∀ p, p ∈ done2 ↔ (nodeP u p).isSome = true) := Lib.hid ⟨HM.out.nodup, fun p => ⟨HM.out.some p, hall p⟩⟩
     have HLS : Hid (∀ x ∈ acc, x.size ≤ 10000) := Lib.hid (fun x hx => by
      rw [HA.out, HAF.out] at hx
      rcases List.mem_append.1 hx with e | e
      ·
       exact HKT.out x ((HD1.out.2 x).1 (List.mem_filter.1 e).1)
      ·
       exact HKU.out x ((HD2.out.2 x).1 (List.mem_filter.1 e).1))
     have HSO := Lib.hid (sortstr_any W wr HG.out HB.out _ acc (Kd.R_reok rfl HO.out (ok := fun _ => True) (fun _ _ => trivial)) HLS.out (by omega))
     have HAA : Hid (acc = done.filter (p1 t u) ++ done2.filter (p2 t)) := Lib.hid (by rw [HA.out, HAF.out])
     clear HM HN HA HAF HO HMl hall hc0
     go_wp2_with fail
     refine HSO.out.mono ?_
     rintro e w9 ⟨rfl, S, hsp, hss, hsr, hsb⟩
     have HS : Hid (S = R) := Lib.hid (by rw [HR.out]; exact collect HD1.out.1 HD2.out.1 HD1.out.2 HD2.out.2 (by rw [← HAA.out]; exact hsp) hss)
     have HSR := Lib.hid hsr
     have HSB := Lib.hid hsb
     clear hsp hss hsr hsb HSO hrun
     go_wp2
     go_ret
     exact ⟨_, rfl, by rw [← HS.out]; exact HSR.out, HSB.out⟩
    ·
     obtain ⟨n0, n1, n2, n3, n4, n5, n6⟩ := nv
     replace hrun : (Instr.next (.pointer (some ⟨r2, 0, none⟩)) false 0).run Tryz.prog wr = .ok (.tuple #[.bool true, .string key, .agg #[.int .i64 n0, .int .u32 n1, .int .u32 n2, .int .u32 n3, .int .i64 n4, .int .i64 n5, .string n6]]) wx := hrun
     replace hent : (Instr.entry (.pointer (some ⟨r2, 0, none⟩))).run Tryz.prog wx = .ok (.tuple #[.string key, .agg #[.int .i64 n0, .int .u32 n1, .int .u32 n2, .int .u32 n3, .int .i64 n4, .int .i64 n5, .string n6]]) wx := hent
     have HMx := Lib.hid hmr
     have HNx := Lib.hid (HN.out.move (hgr.block _ HN.out.lt (by intro e; injection e with e; exact HNR2.out e)))
     have HOx := Lib.hid (Kd.R_grown2 HO.out rfl hgr (fun k hk e => by injection hk with hk; exact HO.out.1 k e.symm hk.symm))
     have HBx := Lib.hid (below_row HB.out hgr HRL2.out)
     have hrx : r2 < wx.heap.size := hmr.lt
     clear hmr hgr hsz
     clear HM HN HO HB
     cases hf : nodeP t key with
     | none =>
      have hp : p2 t key = true := by unfold p2; rw [hf]; rfl
      have hq : (Instr.lookup 125 (.map (some ba)) (.string key) true).run Tryz.prog wx = .ok (.tuple #[.agg #[.int .i64 0, .int .u32 0, .int .u32 0, .int .u32 0, .int .i64 0, .int .i64 0, .string ByteArray.empty], .bool false]) wx := by
       have := HNx.out.ask (P := Tryz.prog) (t := 125) (kT := 9) (eT := 34) (by kernel_rfl) (by kernel_rfl) (zeroN _) key true
       rw [hf] at this
       exact this
      have HA2 : Hid (acc ++ [key] = A1 ++ (done2 ++ [key]).filter (p2 t)) := Lib.hid (by rw [filt_more1 _ _ hp, HA.out, List.append_assoc])
      have hb2 := below_one wx (.cells #[.int .i64 0, .int .u32 0, .int .u32 0, .int .u32 0, .int .i64 0, .int .i64 0, .string ByteArray.empty] 34)
      have HMb := Lib.hid (HMx.out.below hb2)
      have HNb := Lib.hid (HNx.out.below hb2)
      have HOb := Lib.hid (Kd.R_below HOx.out hb2)
      have HBb := Lib.hid (below_next HBx.out hb2)
      have hrb : r2 < (wx.alloc (.cells #[.int .i64 0, .int .u32 0, .int .u32 0, .int .u32 0, .int .i64 0, .int .i64 0, .string ByteArray.empty] 34)).heap.size := Nat.lt_of_lt_of_le hrx hb2.size
      clear hb2 hp hf HMx HNx HOx HBx HA hrx
      go_wp2_with ((with_reducible refine gate_builtin (b := .append) (xs := #[.tmp 57, .tmp 59]) rfl ?_); at_builtin; refine Kd.R_append Kd.string (w0 := W) W.heap.size rfl (.tmp 57) (.tmp 59) 61 9 (.string ByteArray.empty) 16 rfl Tryz.underlying61 infoStr rfl (by decide) (by decide) (.slice Av acc.length cv) acc key [.string key] (fun k => k ≠ r2) (fun _ => False) rfl (by first | rfl | (simp; done) | (simp; rfl)) ?aP (fun _ hk => hk.elim) ?aF ?aO ?aB ?aS ?aL ?_; skip)
      case aP => exact rfl
      case aB => exact HBb.out
      case aF => exact (fun k hk e => by subst e; exact absurd hrb (Nat.not_lt.2 hk))
      case aO => exact HOb.out
      case aS => exact HBb.out.size
      case aL => first | omega | (simp; done) | (simp; omega)
      intro va w5 ho hb5 hg5 hat5
      have HO5 := Lib.hid ho
      have HB5 := Lib.hid hb5
      have HG5 := Lib.hid hg5
      clear ho hb5 hg5 hat5
      have HM5 := Lib.hid (HMb.out.kept HG5.out (fun e => ne_own2 HMb.out.map HOb.out e) (fun e => HOb.out.1 r2 e.symm rfl))
      have HN5 := Lib.hid (HNb.out.grown HG5.out (fun e => ne_own2 HNb.out HOb.out e))
      go_wp2
      go_roundw
      case rel => exact ⟨done2 ++ [key], cnt', acc ++ [key], Lib.hid trivial, HM5, HN5, HA2, HO5, HB5⟩
      case measure => rw [HM5.out.left_eq, HMl.out]; exact hcl
     | some mv =>
      obtain ⟨m0, m1, m2, m3, m4, m5, m6⟩ := mv
      have hp : p2 t key = false := by unfold p2; rw [hf]; rfl
      have hq : (Instr.lookup 125 (.map (some ba)) (.string key) true).run Tryz.prog wx = .ok (.tuple #[.agg #[.int .i64 m0, .int .u32 m1, .int .u32 m2, .int .u32 m3, .int .i64 m4, .int .i64 m5, .string m6], .bool true]) wx := by
       have := HNx.out.ask (P := Tryz.prog) (t := 125) (kT := 9) (eT := 34) (by kernel_rfl) (by kernel_rfl) (zeroN _) key true
       rw [hf] at this
       exact this
      have HA2 : Hid (acc = A1 ++ (done2 ++ [key]).filter (p2 t)) := Lib.hid (by rw [filt_more0 _ _ hp, ← HA.out])
      have hb2 := below_one wx (.cells #[.int .i64 m0, .int .u32 m1, .int .u32 m2, .int .u32 m3, .int .i64 m4, .int .i64 m5, .string m6] 34)
      have HMb := Lib.hid (HMx.out.below hb2)
      have HNb := Lib.hid (HNx.out.below hb2)
      have HOb := Lib.hid (Kd.R_below HOx.out hb2)
      have HBb := Lib.hid (below_next HBx.out hb2)
      clear hb2 hp hf HMx HNx HOx HBx HA hrx
      go_wp2
      go_roundw
      case rel => exact ⟨done2 ++ [key], cnt', acc, Lib.hid trivial, HMb, HNb, HA2, HOb, HBb⟩
      case measure => rw [HMb.out.left_eq, HMl.out]; exact hcl
  ·
   obtain ⟨n0, n1, n2, n3, n4, n5, n6⟩ := nv
   replace hrun : (Instr.next (.pointer (some ⟨r, 0, none⟩)) false 0).run Tryz.prog wr = .ok (.tuple #[.bool true, .string key, .agg #[.int .i64 n0, .int .u32 n1, .int .u32 n2, .int .u32 n3, .int .i64 n4, .int .i64 n5, .string n6]]) wx := hrun
   replace hent : (Instr.entry (.pointer (some ⟨r, 0, none⟩))).run Tryz.prog wx = .ok (.tuple #[.string key, .agg #[.int .i64 n0, .int .u32 n1, .int .u32 n2, .int .u32 n3, .int .i64 n4, .int .i64 n5, .string n6]]) wx := hent
   have HMx := Lib.hid hmr
   have HNx := Lib.hid (HN.out.move (hgr.block _ HN.out.lt (by intro e; injection e with e; exact HNR.out e)))
   have HOx := Lib.hid (Kd.R_grown2 HO.out rfl hgr (fun k hk e => by injection hk with hk; exact HO.out.1 k e.symm hk.symm))
   have HBx := Lib.hid (below_row HB.out hgr HRL.out)
   have hrx : r < wx.heap.size := hmr.lt
   clear hmr hgr hsz
   have hb1 := below_one wx (.cells #[.int .i64 n0, .int .u32 n1, .int .u32 n2, .int .u32 n3, .int .i64 n4, .int .i64 n5, .string n6] 34)
   have HNn := Lib.hid (heap_new wx (.cells #[.int .i64 n0, .int .u32 n1, .int .u32 n2, .int .u32 n3, .int .i64 n4, .int .i64 n5, .string n6] 34))
   have HMa := Lib.hid (HMx.out.below hb1)
   have HNa := Lib.hid (HNx.out.below hb1)
   have HOa := Lib.hid (Kd.R_below HOx.out hb1)
   have HBa := Lib.hid (below_next HBx.out hb1)
   clear hb1 HMx HNx HOx HBx HM HN HO HB
   cases hf : nodeP u key with
   | none =>
    have hp : p1 t u key = true := by unfold p1 difB; rw [hfk, hf]; simp
    have hq : (Instr.lookup 125 (.map (some bb)) (.string key) true).run Tryz.prog (wx.alloc (.cells #[.int .i64 n0, .int .u32 n1, .int .u32 n2, .int .u32 n3, .int .i64 n4, .int .i64 n5, .string n6] 34)) = .ok (.tuple #[.agg #[.int .i64 0, .int .u32 0, .int .u32 0, .int .u32 0, .int .i64 0, .int .i64 0, .string ByteArray.empty], .bool false]) (wx.alloc (.cells #[.int .i64 n0, .int .u32 n1, .int .u32 n2, .int .u32 n3, .int .i64 n4, .int .i64 n5, .string n6] 34)) := by
     have := HNa.out.ask (P := Tryz.prog) (t := 125) (kT := 9) (eT := 34) (by kernel_rfl) (by kernel_rfl) (zeroN _) key true
     rw [hf] at this
     exact this
    have HA2 : Hid (acc ++ [key] = (done ++ [key]).filter (p1 t u)) := Lib.hid (by rw [filt_more1 _ _ hp, HA.out])
    have hb2 := below_one (wx.alloc (.cells #[.int .i64 n0, .int .u32 n1, .int .u32 n2, .int .u32 n3, .int .i64 n4, .int .i64 n5, .string n6] 34)) (.cells #[.int .i64 0, .int .u32 0, .int .u32 0, .int .u32 0, .int .i64 0, .int .i64 0, .string ByteArray.empty] 34)
    have HMb := Lib.hid (HMa.out.below hb2)
    have HNb := Lib.hid (HNa.out.below hb2)
    have HOb := Lib.hid (Kd.R_below HOa.out hb2)
    have HBb := Lib.hid (below_next HBa.out hb2)
    have hrb : r < ((wx.alloc (.cells #[.int .i64 n0, .int .u32 n1, .int .u32 n2, .int .u32 n3, .int .i64 n4, .int .i64 n5, .string n6] 34)).alloc (.cells #[.int .i64 0, .int .u32 0, .int .u32 0, .int .u32 0, .int .i64 0, .int .i64 0, .string ByteArray.empty] 34)).heap.size := Nat.lt_of_lt_of_le hrx (Nat.le_trans (below_one wx _).size hb2.size)
    clear hb2 hp hf HMa HNa HOa HBa HA HNn hrx
    go_wp2_with ((with_reducible refine gate_builtin (b := .append) (xs := #[.tmp 39, .tmp 41]) rfl ?_); at_builtin; refine Kd.R_append Kd.string (w0 := W) W.heap.size rfl (.tmp 39) (.tmp 41) 61 9 (.string ByteArray.empty) 16 rfl Tryz.underlying61 infoStr rfl (by decide) (by decide) (.slice Av acc.length cv) acc key [.string key] (fun k => k ≠ r) (fun _ => False) rfl (by first | rfl | (simp; done) | (simp; rfl)) ?aP (fun _ hk => hk.elim) ?aF ?aO ?aB ?aS ?aL ?_; skip)
    case aP => exact rfl
    case aB => exact HBb.out
    case aF => exact (fun k hk e => by subst e; exact absurd hrb (Nat.not_lt.2 hk))
    case aO => exact HOb.out
    case aS => exact HBb.out.size
    case aL => first | omega | (simp; done) | (simp; omega)
    intro va w5 ho hb5 hg5 hat5
    have HO5 := Lib.hid ho
    have HB5 := Lib.hid hb5
    have HG5 := Lib.hid hg5
    clear ho hb5 hg5 hat5
    have HM5 := Lib.hid (HMb.out.kept HG5.out (fun e => ne_own2 HMb.out.map HOb.out e) (fun e => HOb.out.1 r e.symm rfl))
    have HN5 := Lib.hid (HNb.out.grown HG5.out (fun e => ne_own2 HNb.out HOb.out e))
    go_wp2
    go_roundw
    case rel => exact ⟨done ++ [key], cnt', acc ++ [key], Lib.hid trivial, HM5, HN5, HA2, HO5, HB5⟩
    case measure => rw [HM5.out.left_eq, HMl.out]; exact hcl
   | some mv =>
    obtain ⟨m0, m1, m2, m3, m4, m5, m6⟩ := mv
    have he := fun (dd : Nat) (V : World) => eqNode dd V m0 n0 m1 n1 m2 n2 m3 n3 m4 n4 m5 n5 m6 n6
    rw [node_eq] at he
    have hp : p1 t u key = !decide (((m0, m1, m2, m3, m4, m5, m6) : Nd) = (n0, n1, n2, n3, n4, n5, n6)) := by
     unfold p1 difB
     rw [hfk, hf]
     by_cases e : ((m0, m1, m2, m3, m4, m5, m6) : Nd) = (n0, n1, n2, n3, n4, n5, n6)
     ·
      rw [decide_eq_true e, e]; simp
     ·
      have e2 : ¬ ((n0, n1, n2, n3, n4, n5, n6) : Nd) = (m0, m1, m2, m3, m4, m5, m6) := fun h => e h.symm
      rw [decide_eq_false e]
      exact decide_eq_true (fun h => e2 (Option.some.inj h))
    have hq : (Instr.lookup 125 (.map (some bb)) (.string key) true).run Tryz.prog (wx.alloc (.cells #[.int .i64 n0, .int .u32 n1, .int .u32 n2, .int .u32 n3, .int .i64 n4, .int .i64 n5, .string n6] 34)) = .ok (.tuple #[.agg #[.int .i64 m0, .int .u32 m1, .int .u32 m2, .int .u32 m3, .int .i64 m4, .int .i64 m5, .string m6], .bool true]) (wx.alloc (.cells #[.int .i64 n0, .int .u32 n1, .int .u32 n2, .int .u32 n3, .int .i64 n4, .int .i64 n5, .string n6] 34)) := by
     have := HNa.out.ask (P := Tryz.prog) (t := 125) (kT := 9) (eT := 34) (by kernel_rfl) (by kernel_rfl) (zeroN _) key true
     rw [hf] at this
     exact this
    have hb2 := below_one (wx.alloc (.cells #[.int .i64 n0, .int .u32 n1, .int .u32 n2, .int .u32 n3, .int .i64 n4, .int .i64 n5, .string n6] 34)) (.cells #[.int .i64 m0, .int .u32 m1, .int .u32 m2, .int .u32 m3, .int .i64 m4, .int .i64 m5, .string m6] 34)
    have HNn2 := Lib.hid ((hb2.block _ (Array.getElem?_eq_some_iff.1 HNn.out).1).trans HNn.out)
    have HNm := Lib.hid (heap_new (wx.alloc (.cells #[.int .i64 n0, .int .u32 n1, .int .u32 n2, .int .u32 n3, .int .i64 n4, .int .i64 n5, .string n6] 34)) (.cells #[.int .i64 m0, .int .u32 m1, .int .u32 m2, .int .u32 m3, .int .i64 m4, .int .i64 m5, .string m6] 34))
    have HNm : Hid (((wx.alloc (.cells #[.int .i64 n0, .int .u32 n1, .int .u32 n2, .int .u32 n3, .int .i64 n4, .int .i64 n5, .string n6] 34)).alloc (.cells #[.int .i64 m0, .int .u32 m1, .int .u32 m2, .int .u32 m3, .int .i64 m4, .int .i64 m5, .string m6] 34)).heap[wx.heap.size + 1]? = some (.cells #[.int .i64 m0, .int .u32 m1, .int .u32 m2, .int .u32 m3, .int .i64 m4, .int .i64 m5, .string m6] 34 (0, 0))) := Lib.hid (by have h := HNm.out; rw [show (wx.alloc (.cells #[.int .i64 n0, .int .u32 n1, .int .u32 n2, .int .u32 n3, .int .i64 n4, .int .i64 n5, .string n6] 34)).heap.size = wx.heap.size + 1 by simp] at h; exact h)
    have pc0 : ((wx.alloc (.cells #[.int .i64 n0, .int .u32 n1, .int .u32 n2, .int .u32 n3, .int .i64 n4, .int .i64 n5, .string n6] 34)).alloc (.cells #[.int .i64 m0, .int .u32 m1, .int .u32 m2, .int .u32 m3, .int .i64 m4, .int .i64 m5, .string m6] 34)).cell? ⟨wx.heap.size, 0, none⟩ = some (.int .i64 n0) := by rw [cell_of HNn2.out]; rfl
    have qc0 : ((wx.alloc (.cells #[.int .i64 n0, .int .u32 n1, .int .u32 n2, .int .u32 n3, .int .i64 n4, .int .i64 n5, .string n6] 34)).alloc (.cells #[.int .i64 m0, .int .u32 m1, .int .u32 m2, .int .u32 m3, .int .i64 m4, .int .i64 m5, .string m6] 34)).cell? ⟨wx.heap.size + 1, 0, none⟩ = some (.int .i64 m0) := by rw [cell_of HNm.out]; rfl
    have pc1 : ((wx.alloc (.cells #[.int .i64 n0, .int .u32 n1, .int .u32 n2, .int .u32 n3, .int .i64 n4, .int .i64 n5, .string n6] 34)).alloc (.cells #[.int .i64 m0, .int .u32 m1, .int .u32 m2, .int .u32 m3, .int .i64 m4, .int .i64 m5, .string m6] 34)).cell? ⟨wx.heap.size, 1, none⟩ = some (.int .u32 n1) := by rw [cell_of HNn2.out]; rfl
    have qc1 : ((wx.alloc (.cells #[.int .i64 n0, .int .u32 n1, .int .u32 n2, .int .u32 n3, .int .i64 n4, .int .i64 n5, .string n6] 34)).alloc (.cells #[.int .i64 m0, .int .u32 m1, .int .u32 m2, .int .u32 m3, .int .i64 m4, .int .i64 m5, .string m6] 34)).cell? ⟨wx.heap.size + 1, 1, none⟩ = some (.int .u32 m1) := by rw [cell_of HNm.out]; rfl
    have pc2 : ((wx.alloc (.cells #[.int .i64 n0, .int .u32 n1, .int .u32 n2, .int .u32 n3, .int .i64 n4, .int .i64 n5, .string n6] 34)).alloc (.cells #[.int .i64 m0, .int .u32 m1, .int .u32 m2, .int .u32 m3, .int .i64 m4, .int .i64 m5, .string m6] 34)).cell? ⟨wx.heap.size, 2, none⟩ = some (.int .u32 n2) := by rw [cell_of HNn2.out]; rfl
    have qc2 : ((wx.alloc (.cells #[.int .i64 n0, .int .u32 n1, .int .u32 n2, .int .u32 n3, .int .i64 n4, .int .i64 n5, .string n6] 34)).alloc (.cells #[.int .i64 m0, .int .u32 m1, .int .u32 m2, .int .u32 m3, .int .i64 m4, .int .i64 m5, .string m6] 34)).cell? ⟨wx.heap.size + 1, 2, none⟩ = some (.int .u32 m2) := by rw [cell_of HNm.out]; rfl
    have pc3 : ((wx.alloc (.cells #[.int .i64 n0, .int .u32 n1, .int .u32 n2, .int .u32 n3, .int .i64 n4, .int .i64 n5, .string n6] 34)).alloc (.cells #[.int .i64 m0, .int .u32 m1, .int .u32 m2, .int .u32 m3, .int .i64 m4, .int .i64 m5, .string m6] 34)).cell? ⟨wx.heap.size, 3, none⟩ = some (.int .u32 n3) := by rw [cell_of HNn2.out]; rfl
    have qc3 : ((wx.alloc (.cells #[.int .i64 n0, .int .u32 n1, .int .u32 n2, .int .u32 n3, .int .i64 n4, .int .i64 n5, .string n6] 34)).alloc (.cells #[.int .i64 m0, .int .u32 m1, .int .u32 m2, .int .u32 m3, .int .i64 m4, .int .i64 m5, .string m6] 34)).cell? ⟨wx.heap.size + 1, 3, none⟩ = some (.int .u32 m3) := by rw [cell_of HNm.out]; rfl
    have pc4 : ((wx.alloc (.cells #[.int .i64 n0, .int .u32 n1, .int .u32 n2, .int .u32 n3, .int .i64 n4, .int .i64 n5, .string n6] 34)).alloc (.cells #[.int .i64 m0, .int .u32 m1, .int .u32 m2, .int .u32 m3, .int .i64 m4, .int .i64 m5, .string m6] 34)).cell? ⟨wx.heap.size, 4, none⟩ = some (.int .i64 n4) := by rw [cell_of HNn2.out]; rfl
    have qc4 : ((wx.alloc (.cells #[.int .i64 n0, .int .u32 n1, .int .u32 n2, .int .u32 n3, .int .i64 n4, .int .i64 n5, .string n6] 34)).alloc (.cells #[.int .i64 m0, .int .u32 m1, .int .u32 m2, .int .u32 m3, .int .i64 m4, .int .i64 m5, .string m6] 34)).cell? ⟨wx.heap.size + 1, 4, none⟩ = some (.int .i64 m4) := by rw [cell_of HNm.out]; rfl
    have pc5 : ((wx.alloc (.cells #[.int .i64 n0, .int .u32 n1, .int .u32 n2, .int .u32 n3, .int .i64 n4, .int .i64 n5, .string n6] 34)).alloc (.cells #[.int .i64 m0, .int .u32 m1, .int .u32 m2, .int .u32 m3, .int .i64 m4, .int .i64 m5, .string m6] 34)).cell? ⟨wx.heap.size, 5, none⟩ = some (.int .i64 n5) := by rw [cell_of HNn2.out]; rfl
    have qc5 : ((wx.alloc (.cells #[.int .i64 n0, .int .u32 n1, .int .u32 n2, .int .u32 n3, .int .i64 n4, .int .i64 n5, .string n6] 34)).alloc (.cells #[.int .i64 m0, .int .u32 m1, .int .u32 m2, .int .u32 m3, .int .i64 m4, .int .i64 m5, .string m6] 34)).cell? ⟨wx.heap.size + 1, 5, none⟩ = some (.int .i64 m5) := by rw [cell_of HNm.out]; rfl
    have pc6 : ((wx.alloc (.cells #[.int .i64 n0, .int .u32 n1, .int .u32 n2, .int .u32 n3, .int .i64 n4, .int .i64 n5, .string n6] 34)).alloc (.cells #[.int .i64 m0, .int .u32 m1, .int .u32 m2, .int .u32 m3, .int .i64 m4, .int .i64 m5, .string m6] 34)).cell? ⟨wx.heap.size, 6, none⟩ = some (.string n6) := by rw [cell_of HNn2.out]; rfl
    have qc6 : ((wx.alloc (.cells #[.int .i64 n0, .int .u32 n1, .int .u32 n2, .int .u32 n3, .int .i64 n4, .int .i64 n5, .string n6] 34)).alloc (.cells #[.int .i64 m0, .int .u32 m1, .int .u32 m2, .int .u32 m3, .int .i64 m4, .int .i64 m5, .string m6] 34)).cell? ⟨wx.heap.size + 1, 6, none⟩ = some (.string m6) := by rw [cell_of HNm.out]; rfl
    have HMb := Lib.hid (HMa.out.below hb2)
    have HNb := Lib.hid (HNa.out.below hb2)
    have HOb := Lib.hid (Kd.R_below HOa.out hb2)
    have HBb := Lib.hid (below_next HBa.out hb2)
    have hrb : r < ((wx.alloc (.cells #[.int .i64 n0, .int .u32 n1, .int .u32 n2, .int .u32 n3, .int .i64 n4, .int .i64 n5, .string n6] 34)).alloc (.cells #[.int .i64 m0, .int .u32 m1, .int .u32 m2, .int .u32 m3, .int .i64 m4, .int .i64 m5, .string m6] 34)).heap.size := Nat.lt_of_lt_of_le hrx (Nat.le_trans (below_one wx _).size hb2.size)
    clear hb2 hf HMa HNa HOa HBa HNn HNn2 HNm hrx
    generalize decide (((m0, m1, m2, m3, m4, m5, m6) : Nd) = (n0, n1, n2, n3, n4, n5, n6)) = qe at *
    cases qe with
    | true =>
     have HA2 : Hid (acc = (done ++ [key]).filter (p1 t u)) := Lib.hid (by rw [filt_more0 _ _ hp, ← HA.out])
     clear hp HA hrb
     go_wp2
     go_roundw
     case rel => exact ⟨done ++ [key], cnt', acc, Lib.hid trivial, HMb, HNb, HA2, HOb, HBb⟩
     case measure => rw [HMb.out.left_eq, HMl.out]; exact hcl
    | false =>
     have HA2 : Hid (acc ++ [key] = (done ++ [key]).filter (p1 t u)) := Lib.hid (by rw [filt_more1 _ _ hp, HA.out])
     clear hp HA
     go_wp2_with ((with_reducible refine gate_builtin (b := .append) (xs := #[.tmp 39, .tmp 41]) rfl ?_); at_builtin; refine Kd.R_append Kd.string (w0 := W) W.heap.size rfl (.tmp 39) (.tmp 41) 61 9 (.string ByteArray.empty) 16 rfl Tryz.underlying61 infoStr rfl (by decide) (by decide) (.slice Av acc.length cv) acc key [.string key] (fun k => k ≠ r) (fun _ => False) rfl (by first | rfl | (simp; done) | (simp; rfl)) ?aP (fun _ hk => hk.elim) ?aF ?aO ?aB ?aS ?aL ?_; skip)
     case aP => exact rfl
     case aB => exact HBb.out
     case aF => exact (fun k hk e => by subst e; exact absurd hrb (Nat.not_lt.2 hk))
     case aO => exact HOb.out
     case aS => exact HBb.out.size
     case aL => first | omega | (simp; done) | (simp; omega)
     intro va w5 ho hb5 hg5 hat5
     have HO5 := Lib.hid ho
     have HB5 := Lib.hid hb5
     have HG5 := Lib.hid hg5
     clear ho hb5 hg5 hat5
     have HM5 := Lib.hid (HMb.out.kept HG5.out (fun e => ne_own2 HMb.out.map HOb.out e) (fun e => HOb.out.1 r e.symm rfl))
     have HN5 := Lib.hid (HNb.out.grown HG5.out (fun e => ne_own2 HNb.out HOb.out e))
     go_wp2
     go_roundw
     case rel => exact ⟨done ++ [key], cnt', acc ++ [key], Lib.hid trivial, HM5, HN5, HA2, HO5, HB5⟩
     case measure => rw [HM5.out.left_eq, HMl.out]; exact hcl
end Go.Proofs.YtibmfjacfbpfgaaGreatDoor.TreeDiff
