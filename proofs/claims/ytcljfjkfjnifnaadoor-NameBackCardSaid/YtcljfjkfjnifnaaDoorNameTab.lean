/- The document's table of CP437's upper half, as a call hands it back. -/
import Derived.Test.YtcljfjkfjnifnaaDoorPNmx0
import Derived.Lib.Hide
set_option linter.unusedVariables false
set_option linter.unusedSimpArgs false
namespace Go.Proofs.YtcljfjkfjnifnaaDoor.NameTab
open Go.RowKit Go.Proofs.YtcljfjkfjnifnaaDoorW.PrintWords Go.Proofs.YtcljfjkfjnifnaaDoorW.PrintLast Go.Proofs.YtcljfjkfjnifnaaDoorW.PrintMore

def tabL : List Int := [199, 252, 233, 226, 228, 224, 229, 231, 234, 235, 232, 239, 238, 236, 196, 197, 201, 230, 198, 244, 246, 242, 251, 249, 255, 214, 220, 162, 163, 165, 8359, 402, 225, 237, 243, 250, 241, 209, 170, 186, 191, 8976, 172, 189, 188, 161, 171, 187, 9617, 9618, 9619, 9474, 9508, 9569, 9570, 9558, 9557, 9571, 9553, 9559, 9565, 9564, 9563, 9488, 9492, 9524, 9516, 9500, 9472, 9532, 9566, 9567, 9562, 9556, 9577, 9574, 9568, 9552, 9580, 9575, 9576, 9572, 9573, 9561, 9560, 9554, 9555, 9579, 9578, 9496, 9484, 9608, 9604, 9612, 9616, 9600, 945, 223, 915, 960, 931, 963, 181, 964, 934, 920, 937, 948, 8734, 966, 949, 8745, 8801, 177, 8805, 8804, 8992, 8993, 247, 8776, 176, 8729, 183, 8730, 8319, 178, 9632, 160]
set_option maxHeartbeats 1000000 in
set_option maxRecDepth 1000000 in
theorem table_any (w : World) : Calls Tryd.prog 66 #[] w fun e w' => ∃ v0_ : Value, e = .returned (v0_) ∧ Kd.R (Kd.int .i64) 3 w' w.heap.size (fun _ => True) v0_ tabL ∧ Below w.heap.size w w' := by
  go_enter Tryd.func66, Tryd.ntmps66
  iterate 11 (first | go_values | go_skip | go_guarded | go_step)
  refine Kd.R_lit (w0 := w) (Kd.int .i64) w.heap.size 3 rfl (N := 1) rfl (xs := tabL) (inner := encs (Value.int .i64) tabL) (ok := fun _ => True) (okp := fun _ => True) ?hr ?hp (fun _ hk => hk) trivial (Below.refl _ _) (Nat.le_refl _) (by decide) ?_
  case hp => exact Kd.reps_scalar tabL
  case hr => kernel_rfl
  intro v1 w1 ho hb _ _
  have HO := Lib.hid ho
  have HB := Lib.hid hb
  clear ho hb
  go_wp2
  go_ret
  exact ⟨_, rfl, HO.out, HB.out⟩
end Go.Proofs.YtcljfjkfjnifnaaDoor.NameTab
