/- sort: symMerge, the general step: behind the search. -/
import Derived.Test.YtpjjooiamdfmfaaGreatDoorSortMrgB
import Derived.Deep.DeepCutAuto
set_option linter.unusedVariables false
set_option linter.unusedSimpArgs false
namespace Go.Proofs.YtpjjooiamdfmfaaGreatDoor.SortMrgC
open Go.RowKit Go.Proofs.YtpjjooiamdfmfaaGreatDoorW.PrintWords Go.Proofs.YtpjjooiamdfmfaaGreatDoorW.PrintLast Go.Proofs.YtpjjooiamdfmfaaGreatDoorW.PrintMore Go.Proofs.YtpjjooiamdfmfaaGreatDoor.Item Go.Proofs.YtpjjooiamdfmfaaGreatDoor.Own Go.Proofs.YtpjjooiamdfmfaaGreatDoor.Stab Go.Proofs.YtpjjooiamdfmfaaGreatDoor.SortLaw Go.Proofs.YtpjjooiamdfmfaaGreatDoor.TreeLaw Go.Proofs.YtpjjooiamdfmfaaGreatDoor.NameWalk Go.Proofs.YtpjjooiamdfmfaaGreatDoor.SortSwap Go.Proofs.YtpjjooiamdfmfaaGreatDoor.SortIns Go.Proofs.YtpjjooiamdfmfaaGreatDoor.SortMrgA Go.Proofs.YtpjjooiamdfmfaaGreatDoor.SortMrgB

theorem cutC {u v p q L : List It} {a m b n st s0 r0 mid : Nat} (hL : L = p ++ (u ++ (v ++ q))) (ha : a = p.length) (hm : m = a + u.length) (hb : b = m + v.length) (hn : n = mid + m) (h0 : a ≤ s0) (h1 : n ≤ b + s0) (h2 : r0 ≤ mid) (h3 : r0 ≤ m) (hs : s0 ≤ st) (hr : st ≤ r0)
    (hS : s0 = a ∨ s0 + b = n) (hR : r0 = mid ∨ r0 = m) (k1 : st = s0 ∨ ∃ x y, L[st - 1]? = some x ∧ L[n - st]? = some y ∧ ltI y x = false) (k2 : st = r0 ∨ ∃ x y, L[st]? = some x ∧ L[n - 1 - st]? = some y ∧ ltI y x = true) :
    (∀ x y, (u.take (st - a)).getLast? = some x → (v.drop (n - st - m)).head? = some y → ltI y x = false) ∧ (∀ y x, (v.take (n - st - m)).getLast? = some y → (u.drop (st - a)).head? = some x → ltI y x = true) := by
  have atU : ∀ k, k < u.length → L[a + k]? = u[k]? := fun k hk => by rw [hL, ha]; exact in_left hk
  have atV : ∀ k, k < v.length → L[m + k]? = v[k]? := fun k hk => by
    rw [hL, ← List.append_assoc, show m + k = (p ++ u).length + k by rw [List.length_append]; omega]
    exact in_left hk
  constructor
  · intro x y hx hy
    rw [List.head?_drop] at hy
    have hyl := (List.getElem?_eq_some_iff.1 hy).1
    by_cases hz : st - a = 0
    · rw [hz] at hx; simp at hx
    · rw [List.getLast?_eq_getElem?, List.length_take, Nat.min_eq_left (by omega), List.getElem?_take_of_lt (by omega)] at hx
      rcases k1 with e | ⟨x', y', e1, e2, e3⟩
      · rcases hS with f | f
        · omega
        · omega
      · have f1 := atU (st - a - 1) (by omega)
        have f2 := atV (n - st - m) hyl
        rw [show a + (st - a - 1) = st - 1 by omega, hx, e1] at f1
        rw [show m + (n - st - m) = n - st by omega, hy, e2] at f2
        injection f1 with f1
        injection f2 with f2
        rw [← f1, ← f2]; exact e3
  · intro y x hy hx
    rw [List.head?_drop] at hx
    have hxl := (List.getElem?_eq_some_iff.1 hx).1
    by_cases hz : n - st - m = 0
    · rw [hz] at hy; simp at hy
    · rw [List.getLast?_eq_getElem?, List.length_take, Nat.min_eq_left (by omega), List.getElem?_take_of_lt (by omega)] at hy
      rcases k2 with e | ⟨x', y', e1, e2, e3⟩
      · rcases hR with f | f
        · omega
        · omega
      · have f1 := atU (st - a) hxl
        have f2 := atV (n - st - m - 1) (by omega)
        rw [show a + (st - a) = st by omega, hx, e1] at f1
        rw [show m + (n - st - m - 1) = n - 1 - st by omega, hy, e2] at f2
        injection f1 with f1
        injection f2 with f2
        rw [← f1, ← f2]; exact e3
def MPost (W0 : World) (g N c : Nat) (p s0 q : List It) (W : World) (e : Ending) (w' : World) : Prop := e = .returned (.tuple #[]) ∧ (∃ s, Row w' W0.heap.size g N c (p ++ (s ++ q)) ∧ Stb ltI s0 s) ∧ W.grownBy w' (some g)
def snd : Code → Code
  | .seq _ y => y
  | _ => .skip
noncomputable def tail : Code := snd (snd (snd (snd (snd (snd (snd (snd (snd (Tryz.f145.body.getD .skip)))))))))
set_option maxHeartbeats 16000000 in
set_option maxRecDepth 100000 in
theorem tailC {W0 : World} {ad : Addr} {g N c K : Nat} {p u v q ua ub va vb : List It} {W wr : World} {a m b mid st en : Nat} (HIH : Hid (∀ (p u v q : List It) (W : World) (a m b : Nat), u.length + v.length < K → 0 < u.length → 0 < v.length → a = p.length → m = a + u.length → b = m + v.length → Sorted ltI u → Sorted ltI v → Short u → Short v → Below W0.heap.size W0 W → Row W W0.heap.size g N c (p ++ (u ++ (v ++ q))) → Calls Tryz.prog 145 #[.slice (some ⟨g, 0, none⟩) N c, .int .i64 (a : Nat), .int .i64 (m : Nat), .int .i64 (b : Nat), .func (.func 63) #[] #[]] W (MPost W0 g N c p (u ++ v) q W))) (hN : N ≤ 1000000) (HB : Hid (Below W0.heap.size W0 W)) (HNG : Hid (W0.heap.size ≤ g)) (HAD : Hid (ad = ⟨g, 0, none⟩))
    (hst2 : a ≤ st ∧ st ≤ m ∧ st ≤ mid ∧ m ≤ en ∧ en ≤ b ∧ en + st = mid + m) (hmd : a < mid ∧ mid < b) (hbN : b ≤ N) (HLEN : Hid (ua.length = st - a ∧ ub.length = m - st ∧ va.length = en - m ∧ vb.length = b - en))
    (HSO : Hid (Sorted ltI (ua ++ ub) ∧ Sorted ltI (va ++ vb) ∧ Short (ua ++ ub) ∧ Short (va ++ vb))) (HPU : Hid (a = p.length ∧ (ua ++ ub).length + (va ++ vb).length ≤ K))
    (HCU : Hid ((∀ x y, ua.getLast? = some x → vb.head? = some y → ltI y x = false) ∧ (∀ y x, va.getLast? = some y → ub.head? = some x → ltI y x = true))) (HUV : Hid (u ++ v = ua ++ ub ++ (va ++ vb)))
    (HR1 : Hid (Row wr W0.heap.size g N c (p ++ (ua ++ (ub ++ (va ++ (vb ++ q))))))) (HG : Hid (W.grownBy wr (some g))) {t5 t6 t7 t8 t9 t10 t11 t12 t13 t14 t15 t16 t17 t19 t21 t22 t23 t25 t26 t27 t28 t29 t30 t31 t32 t33 t34 t35 t36 t37 t38 t39 t40 t41 t42 t43 t44 t45 t46 t47 t48 t49 t50 t51 t52 t53 t54 t55 t56 t57 t58 t59 t60 t61 t62 t63 t64 t65 t66 t67 t68 t69 t70 t71 t72 t73 t74 t75 t76 t77 t78 t79 t80 t81 t82 t83 t84 t85 t86 t87 t88 t89 t90 t91 t92 t93 t94 t95 t96 t97 t98 t99 t100 t101 t102 t103 t104 t105 t106 t107 t108 t109 t110 t111 t112 t113 t114 t115 t116 t117 t118 t119 t120 t121 t122 t123 t124 t125 t126 t127 t128 t129 t130 t131 t132 t133 t134 t135 t136 t137 t138 t139 t140 t141 t142 t143 t144 t145 t146 t147 t148 t149 t150 t151 t152 t153 t154 t155 t156 t157 t158 t159 t160 t161 t162 t163 t164 t165 t166 t167 t168 t169 t170 t171 t172 t173 t174 t175 t176 t177 t178 t179 t180 t181 t182 t183 t184 t185 t186 t187 t188 t189 t190 t191 t192 t193 t194 t195 t196 t197 t198 t199 t200 t201 t202 t203 t204 t205 t206 t207 t208 t209 t210 t211 t212 t213 t214 t215 t216 t217 t218 t219 : Value} :
    Code.wp Tryz.prog tail (bodyPost Tryz.prog Tryz.f145 (MPost W0 g N c p (u ++ v) q W)) ⟨List.toArray (.slice (some ad) N c :: .int .i64 a :: .int .i64 m :: .int .i64 b :: .func (.func 63) #[] #[] :: t5 :: t6 :: t7 :: t8 :: t9 :: t10 :: t11 :: t12 :: t13 :: t14 :: t15 :: t16 :: t17 :: .int .i64 mid :: t19 :: .int .i64 st :: t21 :: t22 :: t23 :: .int .i64 en :: t25 :: t26 :: t27 :: t28 :: t29 :: t30 :: t31 :: t32 :: t33 :: t34 :: t35 :: t36 :: t37 :: t38 :: t39 :: t40 :: t41 :: t42 :: t43 :: t44 :: t45 :: t46 :: t47 :: t48 :: t49 :: t50 :: t51 :: t52 :: t53 :: t54 :: t55 :: t56 :: t57 :: t58 :: t59 :: t60 :: t61 :: t62 :: t63 :: t64 :: t65 :: t66 :: t67 :: t68 :: t69 :: t70 :: t71 :: t72 :: t73 :: t74 :: t75 :: t76 :: t77 :: t78 :: t79 :: t80 :: t81 :: t82 :: t83 :: t84 :: t85 :: t86 :: t87 :: t88 :: t89 :: t90 :: t91 :: t92 :: t93 :: t94 :: t95 :: t96 :: t97 :: t98 :: t99 :: t100 :: t101 :: t102 :: t103 :: t104 :: t105 :: t106 :: t107 :: t108 :: t109 :: t110 :: t111 :: t112 :: t113 :: t114 :: t115 :: t116 :: t117 :: t118 :: t119 :: t120 :: t121 :: t122 :: t123 :: t124 :: t125 :: t126 :: t127 :: t128 :: t129 :: t130 :: t131 :: t132 :: t133 :: t134 :: t135 :: t136 :: t137 :: t138 :: t139 :: t140 :: t141 :: t142 :: t143 :: t144 :: t145 :: t146 :: t147 :: t148 :: t149 :: t150 :: t151 :: t152 :: t153 :: t154 :: t155 :: t156 :: t157 :: t158 :: t159 :: t160 :: t161 :: t162 :: t163 :: t164 :: t165 :: t166 :: t167 :: t168 :: t169 :: t170 :: t171 :: t172 :: t173 :: t174 :: t175 :: t176 :: t177 :: t178 :: t179 :: t180 :: t181 :: t182 :: t183 :: t184 :: t185 :: t186 :: t187 :: t188 :: t189 :: t190 :: t191 :: t192 :: t193 :: t194 :: t195 :: t196 :: t197 :: t198 :: t199 :: t200 :: t201 :: t202 :: t203 :: t204 :: t205 :: t206 :: t207 :: t208 :: t209 :: t210 :: t211 :: t212 :: t213 :: t214 :: t215 :: t216 :: t217 :: t218 :: t219 :: []), []⟩ wr := by
  conv => arg 2; whnf
  refine wp_seq_k (fun K1 h1 => ?_)
  have H1 := Lib.hid h1
  clear h1
  go_cut [] (fun wx => Hid (Row wx W0.heap.size g N c (p ++ (ua ++ (va ++ (ub ++ (vb ++ q)))))) ∧ Hid (W.grownBy wx (some g)))
  case first =>
    by_cases h1 : st < m
    · have j1 : (st : Int) < (m : Int) := i_lt h1
      have k1 : decide ((st : Int) < (m : Int)) = true := decide_eq_true j1
      by_cases h2 : m < en
      · have j2 : (m : Int) < (en : Int) := i_lt h2
        have k2 : decide ((m : Int) < (en : Int)) = true := decide_eq_true j2
        have hl := HLEN.out
        have hC := rotate_any W0.heap.size g N c st m en (.func (.func 63) #[] #[]) (p ++ ua) ub va (vb ++ q) wr hN (by rw [List.length_append]; have := HPU.out; omega) (by omega) (by omega) (by omega) (by omega) (by rw [List.append_assoc]; exact HR1.out)
        have HC := Lib.hid hC
        clear hC hl
        go_wp2_with fail
        rw [← HAD.out] at HC
        refine HC.out.mono ?_
        rintro e w2 ⟨rfl, h2, h3⟩
        rw [List.append_assoc] at h2
        have HR2 := Lib.hid h2
        have HG2 := Lib.hid (grown_trans HG.out h3)
        clear h2 h3 HC
        go_wp2
        go_meet
        case rel => exact ⟨HR2, HG2⟩
      · have j2 : ¬ (m : Int) < (en : Int) := by omega
        have k2 : decide ((m : Int) < (en : Int)) = false := decide_eq_false j2
        have hbt : ¬ st < m ∨ ¬ m < en := .inr h2
        have HR2 : Hid (Row wr W0.heap.size g N c (p ++ (ua ++ (va ++ (ub ++ (vb ++ q)))))) := Lib.hid (by
          have hl := HLEN.out
          have h := HR1.out
          rcases hbt with e | e
          · have : ub = [] := List.eq_nil_of_length_eq_zero (by omega)
            subst this; simpa using h
          · have : va = [] := List.eq_nil_of_length_eq_zero (by omega)
            subst this; simpa using h)
        clear hbt
        go_wp2
        go_meet
        case rel => exact ⟨HR2, HG⟩
    · have j1 : ¬ (st : Int) < (m : Int) := by omega
      have k1 : decide ((st : Int) < (m : Int)) = false := decide_eq_false j1
      have hbt : ¬ st < m ∨ ¬ m < en := .inl h1
      have HR2 : Hid (Row wr W0.heap.size g N c (p ++ (ua ++ (va ++ (ub ++ (vb ++ q)))))) := Lib.hid (by
        have hl := HLEN.out
        have h := HR1.out
        rcases hbt with e | e
        · have : ub = [] := List.eq_nil_of_length_eq_zero (by omega)
          subst this; simpa using h
        · have : va = [] := List.eq_nil_of_length_eq_zero (by omega)
          subst this; simpa using h)
      clear hbt
      go_wp2
      go_meet
      case rel => exact ⟨HR2, HG⟩
  case rest =>
    clear HR1 HG
    obtain ⟨HR2, HG2⟩ := hcut
    refine H1.out _ _ ?_
    clear H1
    refine wp_seq_k (fun K1 h1 => ?_)
    have H1 := Lib.hid h1
    clear h1
    go_cut [] (fun wx => (∃ s1, Hid (Stb ltI (ua ++ va) s1) ∧ Hid (Row wx W0.heap.size g N c (p ++ (s1 ++ (ub ++ (vb ++ q)))))) ∧ Hid (W.grownBy wx (some g)))
    case first =>
      by_cases h1 : a < st
      · have j1 : (a : Int) < (st : Int) := i_lt h1
        have k1 : decide ((a : Int) < (st : Int)) = true := decide_eq_true j1
        by_cases h2 : st < mid
        · have j2 : (st : Int) < (mid : Int) := i_lt h2
          have k2 : decide ((st : Int) < (mid : Int)) = true := decide_eq_true j2
          have hl := HLEN.out
          have hs := HSO.out
          have hp := HPU.out
          simp only [List.length_append] at hp
          have hC := HIH.out p ua va (ub ++ (vb ++ q)) wc a st mid (by omega) (by omega) (by omega) hp.1 (by omega) (by omega) (Sorted.left hs.1) (Sorted.left hs.2.1) (fun x hx => hs.2.2.1 x (List.mem_append_left _ hx)) (fun x hx => hs.2.2.2 x (List.mem_append_left _ hx)) (below_row HB.out HG2.out HNG.out) HR2.out
          have HC := Lib.hid hC
          clear hC hl hs hp
          go_wp2_with fail
          rw [← HAD.out] at HC
          refine HC.out.mono ?_
          rintro e w3 ⟨rfl, ⟨s1, h2, h4⟩, h3⟩
          have HR3 := Lib.hid h2
          have HS1 := Lib.hid h4
          have HG3 := Lib.hid (grown_trans HG2.out h3)
          clear h2 h3 h4 HC
          go_wp2
          go_meet
          case rel => exact ⟨⟨s1, HS1, HR3⟩, HG3⟩
        · have j2 : ¬ (st : Int) < (mid : Int) := by omega
          have k2 : decide ((st : Int) < (mid : Int)) = false := decide_eq_false j2
          have hbt : ¬ a < st ∨ ¬ st < mid := .inr h2
          have HS1 : Hid (Stb ltI (ua ++ va) (ua ++ va)) := Lib.hid (by
            have hl := HLEN.out
            have hs := HSO.out
            rcases hbt with e | e
            · have : ua = [] := List.eq_nil_of_length_eq_zero (by omega)
              subst this; exact Stb.refl (by simpa using Sorted.left hs.2.1)
            · have : va = [] := List.eq_nil_of_length_eq_zero (by omega)
              subst this; exact Stb.refl (by simpa using Sorted.left hs.1))
          have HR3 : Hid (Row wc W0.heap.size g N c (p ++ ((ua ++ va) ++ (ub ++ (vb ++ q))))) := Lib.hid (by rw [List.append_assoc]; exact HR2.out)
          clear hbt
          go_wp2
          go_meet
          case rel => exact ⟨⟨_, HS1, HR3⟩, HG2⟩
      · have j1 : ¬ (a : Int) < (st : Int) := by omega
        have k1 : decide ((a : Int) < (st : Int)) = false := decide_eq_false j1
        have hbt : ¬ a < st ∨ ¬ st < mid := .inl h1
        have HS1 : Hid (Stb ltI (ua ++ va) (ua ++ va)) := Lib.hid (by
          have hl := HLEN.out
          have hs := HSO.out
          rcases hbt with e | e
          · have : ua = [] := List.eq_nil_of_length_eq_zero (by omega)
            subst this; exact Stb.refl (by simpa using Sorted.left hs.2.1)
          · have : va = [] := List.eq_nil_of_length_eq_zero (by omega)
            subst this; exact Stb.refl (by simpa using Sorted.left hs.1))
        have HR3 : Hid (Row wc W0.heap.size g N c (p ++ ((ua ++ va) ++ (ub ++ (vb ++ q))))) := Lib.hid (by rw [List.append_assoc]; exact HR2.out)
        clear hbt
        go_wp2
        go_meet
        case rel => exact ⟨⟨_, HS1, HR3⟩, HG2⟩
    case rest =>
      clear HR2 HG2
      obtain ⟨⟨s1, HS1, HR3⟩, HG3⟩ := hcut
      refine H1.out _ _ ?_
      clear H1
      by_cases h1 : mid < en
      · have j1 : (mid : Int) < (en : Int) := i_lt h1
        have k1 : decide ((mid : Int) < (en : Int)) = true := decide_eq_true j1
        by_cases h2 : en < b
        · have j2 : (en : Int) < (b : Int) := i_lt h2
          have k2 : decide ((en : Int) < (b : Int)) = true := decide_eq_true j2
          have hl := HLEN.out
          have hs := HSO.out
          have hp := HPU.out
          have h1l := HS1.out.1.1
          simp only [List.length_append] at hp h1l
          have hC := HIH.out (p ++ s1) ub vb q wc mid en b (by omega) (by omega) (by omega) (by rw [List.length_append]; omega) (by omega) (by omega) (Sorted.right hs.1) (Sorted.right hs.2.1) (fun x hx => hs.2.2.1 x (List.mem_append_right _ hx)) (fun x hx => hs.2.2.2 x (List.mem_append_right _ hx)) (below_row HB.out HG3.out HNG.out) (by rw [List.append_assoc]; exact HR3.out)
          have HC := Lib.hid hC
          clear hC hl hs hp h1l
          go_wp2_with fail
          rw [← HAD.out] at HC
          refine HC.out.mono ?_
          rintro e w4 ⟨rfl, ⟨s2, h2, h4⟩, h3⟩
          have HR4 : Hid (Row w4 W0.heap.size g N c (p ++ ((s1 ++ s2) ++ q))) := Lib.hid (by simpa using h2)
          have HS2 : Hid (Stb ltI (u ++ v) (s1 ++ s2)) := Lib.hid (by
            rw [HUV.out]
            exact cross swoI HSO.out.1 HSO.out.2.1 HCU.out.1 HCU.out.2 HS1.out h4)
          have HG4 := Lib.hid (grown_trans HG3.out h3)
          clear h2 h3 h4 HC
          go_wp2
          go_end0
          exact ⟨rfl, ⟨_, HR4.out, HS2.out⟩, HG4.out⟩
        · have j2 : ¬ (en : Int) < (b : Int) := by omega
          have k2 : decide ((en : Int) < (b : Int)) = false := decide_eq_false j2
          have hbt : ¬ mid < en ∨ ¬ en < b := .inr h2
          have HS2 : Hid (Stb ltI (u ++ v) (s1 ++ (ub ++ vb))) := Lib.hid (by
            rw [HUV.out]
            refine cross swoI HSO.out.1 HSO.out.2.1 HCU.out.1 HCU.out.2 HS1.out ?_
            have hl := HLEN.out
            have hs := HSO.out
            rcases hbt with e | e
            · have : ub = [] := List.eq_nil_of_length_eq_zero (by omega)
              subst this; exact Stb.refl (by simpa using Sorted.right hs.2.1)
            · have : vb = [] := List.eq_nil_of_length_eq_zero (by omega)
              subst this; exact Stb.refl (by simpa using Sorted.right hs.1))
          have HR4 : Hid (Row wc W0.heap.size g N c (p ++ ((s1 ++ (ub ++ vb)) ++ q))) := Lib.hid (by
            have h := HR3.out
            simpa using h)
          clear hbt
          go_wp2
          go_end0
          exact ⟨rfl, ⟨_, HR4.out, HS2.out⟩, HG3.out⟩
      · have j1 : ¬ (mid : Int) < (en : Int) := by omega
        have k1 : decide ((mid : Int) < (en : Int)) = false := decide_eq_false j1
        have hbt : ¬ mid < en ∨ ¬ en < b := .inl h1
        have HS2 : Hid (Stb ltI (u ++ v) (s1 ++ (ub ++ vb))) := Lib.hid (by
          rw [HUV.out]
          refine cross swoI HSO.out.1 HSO.out.2.1 HCU.out.1 HCU.out.2 HS1.out ?_
          have hl := HLEN.out
          have hs := HSO.out
          rcases hbt with e | e
          · have : ub = [] := List.eq_nil_of_length_eq_zero (by omega)
            subst this; exact Stb.refl (by simpa using Sorted.right hs.2.1)
          · have : vb = [] := List.eq_nil_of_length_eq_zero (by omega)
            subst this; exact Stb.refl (by simpa using Sorted.right hs.1))
        have HR4 : Hid (Row wc W0.heap.size g N c (p ++ ((s1 ++ (ub ++ vb)) ++ q))) := Lib.hid (by
          have h := HR3.out
          simpa using h)
        clear hbt
        go_wp2
        go_end0
        exact ⟨rfl, ⟨_, HR4.out, HS2.out⟩, HG3.out⟩
end Go.Proofs.YtpjjooiamdfmfaaGreatDoor.SortMrgC
