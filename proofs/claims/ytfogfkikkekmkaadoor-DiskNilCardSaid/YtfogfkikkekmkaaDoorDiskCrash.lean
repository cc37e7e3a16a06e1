/- disk: slices.Clone of items; a crash that keeps two changes. -/
import Derived.Test.YtfogfkikkekmkaaDoorDiskActs
set_option linter.unusedVariables false
set_option linter.unusedSimpArgs false
namespace Go.Proofs.YtfogfkikkekmkaaDoor.DiskCrash
open Go.RowKit Go.Proofs.YtfogfkikkekmkaaDoorW.PrintWords Go.Proofs.YtfogfkikkekmkaaDoorW.PrintLast Go.Proofs.YtfogfkikkekmkaaDoorW.PrintMore Go.Proofs.YtfogfkikkekmkaaDoor.NameWalk Go.Proofs.YtfogfkikkekmkaaDoor.Item Go.Proofs.YtfogfkikkekmkaaDoor.DiskAt Go.Proofs.YtfogfkikkekmkaaDoor.DiskReal Go.Proofs.YtfogfkikkekmkaaDoor.DiskSmall Go.Proofs.YtfogfkikkekmkaaDoor.DiskRows Go.Proofs.YtfogfkikkekmkaaDoor.DiskDone Go.Proofs.YtfogfkikkekmkaaDoor.DiskWait Go.Proofs.YtfogfkikkekmkaaDoor.DiskActs

section
variable {W W1 : World} {n b : Nat} {vl vs vq : Value} {l s : List It} {q : List Ch} {lim fu fa st : Int} {off : Bool}
theorem dlasts (h : DAt W n b vl vs vq l s q lim fu fa st off) {v1 : Value} {l1 : List It} (hp : RowPost n W W1 vl v1 l1) : DAt (W1.setCell ⟨b, 0, none⟩ v1) n b v1 vs vq l1 s q lim fu fa st off := by
  have hbn : some b ≠ vl.ownBlock := Kd.R_ne h.rl h.blk (by decide)
  have at1 := (hp.2.1.block b h.lt hbn).trans h.blk
  refine ⟨blk_put at1 0 v1 rfl, Kd.R_set (Kd.R_reok rfl hp.1 (fun k hk => ?_)) at1 (by decide) 0 v1, Kd.R_set (Kd.R_grown2 h.rs rfl hp.2.1 (fun k hk => h.rl.1 k hk)) at1 (by decide) 0 v1, Kd.R_set ?_ at1 (by decide) 0 v1, h.nb⟩
  · rcases hp.2.2 with e | ⟨b2, e, hle⟩
    · exact h.rl.1 k (e ▸ hk)
    · rw [e] at hk
      injection hk with hk
      intro h1
      obtain ⟨inner, ho⟩ := Kd.R_own h.rs
      have := own_lt ho k h1.symm
      omega
  · refine Kd.R_grown2 h.rq rfl hp.2.1 (fun k hk => ?_)
    obtain ⟨inner, ho⟩ := Kd.R_own h.rl
    obtain ⟨cells, hc⟩ := own_typed ho k hk
    exact Kd.R_ne h.rq hc (by decide)
end
set_option maxHeartbeats 4000000 in
set_option maxRecDepth 100000 in
theorem clone_some (l : List It) (ad : Addr) (c : Nat) (W : World) (hl : ItemC W (some ad) l) (hn : l.length ≤ 1000000) :
    Calls Tryd.prog 44 #[.slice (some ad) l.length c] W fun e w' => ∃ v1, e = .returned v1 ∧ itemK.R 57 w' W.heap.size (fun _ => True) v1 l ∧ Below W.heap.size W w' := by
  have q66 : ∀ (w : World) (a : Option Addr) (n c n' c' : Nat), (binOp .eql 66 (.slice a n c) (.slice none n' c')).run Tryd.prog w = .ok (.bool a.isNone) w := fun w a n c n' c' => Lib.run_eql_slice_nil w _ _ a n c n' c' Tryd.underlying66
  have HL := Lib.hid hl
  clear hl
  go_enter Tryd.func44, Tryd.ntmps44
  go_wp2_with ((with_reducible refine gate_builtin (b := .append) (xs := #[.tmp 5, .tmp 6]) rfl ?_); at_builtin; generalize hmark : wpList _ _ _ _ _ _ = goal)
  rw [← hmark]
  clear hmark
  refine Kd.R_append_rows itemK (w0 := W) W.heap.size rfl (.tmp 5) (.tmp 6) 66 57 (.agg #[.string ByteArray.empty, .int .i64 0, .int .u32 0, .int .u32 0, .int .u32 0, .int .i64 0, .int .i64 0, .string ByteArray.empty]) 72 rfl Tryd.underlying66 infoItem rfl (by decide) (by decide) _ ([] : List It) l (some ad) l.length c (fun _ => True) (fun _ => False) rfl rfl (Rr := itemK.K W) ?aO ?aR ?aP (fun _ hk => hk.elim) (fun _ _ => trivial) ?aB ?aS ?aL ?_
  case aO => exact ⟨fun _ _ => trivial, [], World.ownsRow_made W #[] 0 (Nat.le_refl _) (Nat.zero_le _) rfl, rfl, fun j p hj => by cases hj⟩
  case aR => exact Kd.C_below HL.out (below_one W _)
  case aP => exact fun x cs h => itemK_K h ▸ itemK_M _ _ _ x
  case aB => exact below_one W _
  case aS => exact (below_one W _).size
  case aL => simp; omega
  intro v1 w1 ho hb hg hat
  have HO := Lib.hid ho
  have HB := Lib.hid hb
  clear ho hb hg hat
  go_wp2
  go_ret
  exact ⟨_, rfl, HO.out, HB.out⟩
end Go.Proofs.YtfogfkikkekmkaaDoor.DiskCrash
