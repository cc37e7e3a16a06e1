/- filter: patterns are read; a filter is made. -/
import Derived.Test.YtfogfkikkekmkaaGlobComp
import Derived.Test.YtfogfkikkekmkaaGlobAny
set_option linter.unusedVariables false
set_option linter.unusedSimpArgs false
namespace Go.Proofs.Ytfogfkikkekmkaa.FilterComp
open Go.RowKit Go.Proofs.YtfogfkikkekmkaaW.PrintWords Go.Proofs.YtfogfkikkekmkaaW.PrintLast Go.Proofs.YtfogfkikkekmkaaW.PrintMore Go.Proofs.Ytfogfkikkekmkaa.GlobScan Go.Proofs.Ytfogfkikkekmkaa.GlobRunes Go.Proofs.Ytfogfkikkekmkaa.GlobLaw Go.Proofs.Ytfogfkikkekmkaa.GlobTake Go.Proofs.Ytfogfkikkekmkaa.GlobMatch Go.Proofs.Ytfogfkikkekmkaa.GlobSet Go.Proofs.Ytfogfkikkekmkaa.GlobComp Go.Proofs.Ytfogfkikkekmkaa.GlobAny Go.Proofs.Ytfogfkikkekmkaa.FilterLaw

abbrev patK : Kd Pat := Kd.slice 60 atomK
theorem infoPat : (Try.prog.info? 48).map (fun i => (i.zero, i.size, i.bytes)) = some (some (.agg #[.slice none 0 0]), 1, 24) := by kernel_rfl
theorem sizeFilter : (Try.prog.info? 27).map (·.size) = some 2 := by kernel_rfl
/-- A row of texts, read. -/
abbrev StrC (w : World) (A : Option Addr) (l : List ByteArray) : Prop := Kd.string.C w A l.length l
theorem str_at {w : World} {A : Option Addr} {l : List ByteArray} (h : StrC w A l) {k : Nat} (hk : k < l.length) : ∃ ad, A = some ad ∧ w.cell? (ad.add k) = some (.string l[k]) := by
  obtain ⟨ad, e, hc⟩ := h.2.2 (by omega)
  obtain ⟨cs, hl, hK, hcell⟩ := hc k _ (List.getElem?_eq_getElem hk)
  have hK' : cs = [Value.string l[k]] := hK
  subst hK'
  have := hcell 0 _ rfl
  exact ⟨ad, e, by simpa [Kd.string, Kd.scalar] using this⟩
theorem compLoop_len : ∀ (k : Nat) (s : St) (acc : List Atom) (r : St × List Atom), compLoop k s acc = some r → r.2.length ≤ acc.length + k
  | 0, s, acc, r, h => by simp [compLoop] at h
  | k + 1, s, acc, r, h => by
    unfold compLoop at h
    by_cases h1 : s.1.length > 0 ∧ s.2 = false
    · rw [if_pos h1] at h
      have := compLoop_len k _ _ _ h
      rw [List.length_append, List.length_singleton] at this
      omega
    · rw [if_neg h1] at h
      rw [← Option.some.inj h]
      simp
theorem compS_small (s : ByteArray) : (compS s).1.length ≤ 65536 := by
  unfold compS
  by_cases hs : 65535 < s.size
  · rw [if_pos hs]; simp
  · rw [if_neg hs]
    obtain ⟨R, hR⟩ := compLoop_some ((runesL s.data.toList).length + 1) (runesL s.data.toList, false) [] (by simp)
    have h1 := compLoop_len _ _ _ _ hR
    have h2 := runes_len s.data.toList
    rw [← Lib.size_eq] at h2
    unfold compP
    rw [hR]
    rcases R with ⟨⟨a, b⟩, c⟩
    cases b
    · simp at h1 ⊢; omega
    · simp
theorem compGo_small : ∀ (l : List ByteArray) (acc : List Pat), (∀ p ∈ acc, p.length ≤ 65536) → ∀ p ∈ (compGo l acc).1, p.length ≤ 65536
  | [], acc, h => h
  | s :: t, acc, h => by
    unfold compGo
    by_cases h1 : (compS s).2 = 0
    · rw [if_pos h1]
      refine compGo_small t _ ?_
      intro p hp
      rcases List.mem_append.1 hp with hp | hp
      · exact h p hp
      · rw [List.mem_singleton.1 hp]
        exact compS_small s
    · rw [if_neg h1]
      intro p hp
      cases hp
set_option maxHeartbeats 2000000 in
theorem fcomp_any (l : List ByteArray) (A : Option Addr) (c : Nat) (w : World) (hl : StrC w A l) (hn : l.length ≤ 1000) :
    Calls Try.prog 12 #[.slice A l.length c] w fun e w' => ∃ v, e = .returned (.tuple #[v, .int .i64 (compGo l []).2]) ∧ patK.R 48 w' w.heap.size (fun _ => True) v (compGo l []).1 ∧ Below w.heap.size w w' := by
  have HL := Lib.hid hl
  clear hl
  obtain ⟨R, hR⟩ : ∃ R, R = compGo l [] := ⟨_, rfl⟩
  have HR0 := Lib.hid (show compGo (l.drop 0) [] = R from hR.symm)
  rw [← hR]
  clear hR
  go_enter Try.func12, Try.ntmps12
  go_wp2
  go_loopw [4, 11] (fun v i wr => ∃ (k : Nat) (acc : List Pat), k ≤ l.length ∧ acc.length ≤ k ∧ i = .int .i64 k ∧ Hid (compGo (l.drop k) acc = R) ∧ Hid (patK.R 48 wr w.heap.size (fun _ => True) v acc) ∧ Hid (Below w.heap.size w wr)) (fun v i _ => l.length - (intOf i).toNat)
  case atStart => exact ⟨0, [], by omega, by simp, rfl, HR0, Lib.hid (Kd.R_nil _ _ _ _ _), Lib.hid (Below.refl _ _)⟩
  case round =>
    clear HR0
    obtain ⟨k, acc, hk, hacc, rfl, HR, HO, HB⟩ := hrel
    by_cases hlt : k < l.length
    · obtain ⟨ad, rfl, hc⟩ := str_at (Kd.C_below HL.out HB.out) hlt
      have hltI : (k : Int) < l.length := by omega
      have hd := List.drop_eq_getElem_cons hlt
      have hR2 := HR.out
      rw [hd] at hR2
      clear hd HR
      generalize l[k] = s at *
      unfold compGo at hR2
      have HC := Lib.hid (compile_any s wr)
      obtain ⟨inn, hown⟩ := Kd.R_own HO.out
      have HOwn := Lib.hid hown
      clear hown
      have hsm := compS_small s
      obtain ⟨⟨p, er⟩, hpe⟩ : ∃ r, r = compS s := ⟨_, rfl⟩
      rw [← hpe] at HC hR2 hsm
      clear hpe
      simp only at HC hR2 hsm
      go_wp2_with fail
      rename_i K1 h1 K0 h0
      have H1 := Lib.hid h1
      clear h1
      refine HC.out.mono ?_
      rintro e w2 ⟨v1, rfl, hr, hb⟩
      obtain ⟨A1, k1, rfl⟩ := Kd.R_slice hr
      have HB2 := Lib.hid (below_next HB.out hb)
      have HO2 := Lib.hid (Kd.R_below HO.out hb)
      have HN2 := Lib.hid (Kd.R_lower (Kd.R_new hr HOwn.out) HB.out.size)
      clear hr hb HO HC HOwn HB
      go_wp2
      have hb3 : Below w2.heap.size w2 (w2.alloc (.cells #[.slice A1 p.length k1] 48)) := (Below.refl _ _).alloc (Nat.le_refl _) _
      have HB3 := Lib.hid (below_next HB2.out hb3)
      have HO3 := Lib.hid (Kd.R_below HO2.out hb3)
      have HN3 := Lib.hid (Kd.R_below HN2.out hb3)
      have c7 : (w2.alloc (.cells #[.slice A1 p.length k1] 48)).cell? ⟨w2.heap.size, 0, none⟩ = some (.slice A1 p.length k1) := by rw [cell_of (heap_alloc_new w2 _)]; rfl
      clear hb3 HB2 HO2 HN2
      generalize w2.alloc (.cells #[.slice A1 p.length k1] 48) = w3 at *
      generalize w2.heap.size = b7 at *
      refine H1.out _ _ ?_
      clear H1
      by_cases he : er = 0
      · rw [if_pos he] at hR2
        subst he
        have HR := Lib.hid hR2
        clear hR2
        go_wp2_with (first | ((with_reducible refine gate_builtin (b := .append) (xs := #[.tmp 23, .tmp 25]) rfl ?_); at_builtin; refine Kd.R_append patK (w0 := w) w.heap.size rfl (.tmp 23) (.tmp 25) 25 48 (.agg #[.slice none 0 0]) 24 rfl Try.underlying25 infoPat rfl (by decide) (by decide) _ acc p [.slice A1 p.length k1] (fun _ => True) _ rfl rfl ?aP (fun _ hk => hk) ?aF ?aO ?aB ?aS ?aL ?_; (case aP => exact ⟨_, rfl, HN3.out⟩); (case aB => exact HB3.out); (case aF => exact (fun _ _ => trivial)); (case aO => exact HO3.out); (case aS => exact HB3.out.size); (case aL => omega); intro v4 w4 ho hb4 hg4 hat4; have HO4 := Lib.hid ho; have HB4 := Lib.hid hb4; clear ho hb4 hg4 hat4))
        go_roundw
        case rel => exact ⟨k + 1, acc ++ [p], by omega, by rw [List.length_append, List.length_singleton]; omega, by go_num, HR, HO4, HB4⟩
        case measure => simp [intOf]; omega
      · rw [if_neg he] at hR2
        have HR := Lib.hid hR2
        have q1 : (er != 0) = true := by simp [he]
        have q2 : (er == 0) = false := beq_eq_false_iff_ne.2 he
        clear hR2
        go_wp2
        go_ret2
        exact ⟨.slice none 0 0, by rw [← HR.out]; rfl, by rw [← HR.out]; exact Kd.R_nil _ _ _ _ _, HB3.out⟩
    · have HS := Lib.hid (show R = (acc, 0) by rw [← HR.out, List.drop_of_length_le (by omega)]; rfl)
      go_wp2
      go_ret2
      exact ⟨_, by rw [HS.out]; rfl, by rw [HS.out]; exact HO.out, HB.out⟩
end Go.Proofs.Ytfogfkikkekmkaa.FilterComp
