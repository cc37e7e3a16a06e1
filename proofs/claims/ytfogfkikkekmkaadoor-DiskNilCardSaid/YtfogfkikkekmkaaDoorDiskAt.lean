/- disk: the place of a path among items. -/
import Derived.Test.YtfogfkikkekmkaaDoorNameWalk
import Derived.Test.YtfogfkikkekmkaaDoorItem
import Derived.Shelf.Bodies
set_option linter.unusedVariables false
set_option linter.unusedSimpArgs false
namespace Go.Proofs.YtfogfkikkekmkaaDoor.DiskAt
open Go.RowKit Go.Proofs.YtfogfkikkekmkaaDoorW.PrintWords Go.Proofs.YtfogfkikkekmkaaDoorW.PrintLast Go.Proofs.YtfogfkikkekmkaaDoorW.PrintMore Go.Proofs.YtfogfkikkekmkaaDoor.NameLaw Go.Proofs.YtfogfkikkekmkaaDoor.NameCmp Go.Proofs.YtfogfkikkekmkaaDoor.NameWalk Go.Proofs.YtfogfkikkekmkaaDoor.Item

def zIt : It := (ByteArray.empty, 0, 0, 0, 0, 0, 0, ByteArray.empty)
def ordAt (l : List It) (p : ByteArray) (h : Nat) : Int := orderT (l.getD h zIt).1 p
def bsGo : Nat → List It → ByteArray → Nat → Nat → Option Nat
  | 0, _, _, _, _ => none
  | k + 1, l, p, i, j => if i < j then (if ordAt l p ((i + j) / 2) < 0 then bsGo k l p ((i + j) / 2 + 1) j else bsGo k l p i ((i + j) / 2)) else some i
theorem bsGo_some : ∀ (k : Nat) (l : List It) (p : ByteArray) (i j : Nat), i ≤ j → j - i < k → ∃ r, bsGo k l p i j = some r ∧ i ≤ r ∧ r ≤ j
  | 0, l, p, i, j, h, hk => by omega
  | k + 1, l, p, i, j, h, hk => by
    unfold bsGo
    by_cases h1 : i < j
    · rw [if_pos h1]
      by_cases h2 : ordAt l p ((i + j) / 2) < 0
      · rw [if_pos h2]
        obtain ⟨r, e, h3, h4⟩ := bsGo_some k l p ((i + j) / 2 + 1) j (by omega) (by omega)
        exact ⟨r, e, by omega, h4⟩
      · rw [if_neg h2]
        obtain ⟨r, e, h3, h4⟩ := bsGo_some k l p i ((i + j) / 2) (by omega) (by omega)
        exact ⟨r, e, h3, by omega⟩
    · rw [if_neg h1]
      exact ⟨i, rfl, Nat.le_refl _, h⟩
/-- The place of a path: its number, and whether it is there. -/
def placeP (l : List It) (p : ByteArray) : Nat := (bsGo (l.length + 1) l p 0 l.length).getD 0
theorem place_go (l : List It) (p : ByteArray) : bsGo (l.length + 1) l p 0 l.length = some (placeP l p) ∧ placeP l p ≤ l.length := by
  obtain ⟨r, e, _, h⟩ := bsGo_some (l.length + 1) l p 0 l.length (by omega) (by omega)
  unfold placeP
  rw [e]
  exact ⟨rfl, h⟩
def hereP (l : List It) (p : ByteArray) : Bool := decide (placeP l p < l.length) && (ordAt l p (placeP l p) == 0)
theorem get_at {α : Type} (l : List α) (d : α) (i : Nat) (h : i < l.length) : l.getD i d = l[i] := by
  rw [List.getD_eq_getElem?_getD, List.getElem?_eq_getElem h]; rfl
theorem heap_new (w : World) (o : Obj) : (w.alloc o).heap[w.heap.size]? = some o := heap_alloc_new w o
theorem cell_of {w : World} {b : Nat} {cs : Array Value} {t : TypeId} {fr : Nat × Nat} (hb : w.heap[b]? = some (.cells cs t fr)) (j : Nat) : w.cell? ⟨b, j, none⟩ = cs[j]? := by
  simp [World.cell?, hb]
theorem below_one (W : World) (o : Obj) : Below W.heap.size W (W.alloc o) := (Below.refl _ _).alloc (Nat.le_refl _) _
set_option maxHeartbeats 1000000 in
theorem ord_any (pa : ByteArray) (kd mo ui gi mt at_ : Int) (da p : ByteArray) (w : World) (hg : Glob w) (h1 : pa.size < 4294967281) (h2 : p.size < 4294967281) :
    Calls Tryd.prog 72 #[.agg #[.string pa, .int .i64 kd, .int .u32 mo, .int .u32 ui, .int .u32 gi, .int .i64 mt, .int .i64 at_, .string da], .string p] w fun e w' => e = .returned (.int .i64 (orderT pa p)) ∧ Below w.heap.size w w' := by
  have hb0 := below_one w (.cells #[.string pa, .int .i64 kd, .int .u32 mo, .int .u32 ui, .int .u32 gi, .int .i64 mt, .int .i64 at_, .string da] 57)
  have HB0 := Lib.hid hb0
  have HC := Lib.hid (order_any pa p _ (hg.below hb0) h1 h2)
  have c0 : (w.alloc (.cells #[.string pa, .int .i64 kd, .int .u32 mo, .int .u32 ui, .int .u32 gi, .int .i64 mt, .int .i64 at_, .string da] 57)).cell? ⟨w.heap.size, 0, none⟩ = some (.string pa) := by rw [cell_of (heap_new w _)]; rfl
  generalize orderT pa p = r at *
  clear hb0
  go_enter Tryd.func72, Tryd.ntmps72
  go_wp2_with (go_at_call 34; refine HC.out.mono ?_; rintro e w1 ⟨rfl, hb⟩; have HB := Lib.hid (below_next HB0.out hb); clear hb)
  go_ret
  exact ⟨rfl, HB.out⟩
set_option maxHeartbeats 4000000 in
theorem search_any (l : List It) (A : Option Addr) (c : Nat) (p : ByteArray) (w : World) (hg : Glob w) (hl : ItemC w A l) (hn : l.length ≤ 1000000) (hs : ∀ x ∈ l, x.1.size < 4294967281) (hp : p.size < 4294967281) :
    Calls Tryd.prog 71 #[.slice A l.length c, .string p, .func (.func 72) #[] #[]] w fun e w' => e = .returned (.tuple #[.int .i64 (placeP l p), .bool (hereP l p)]) ∧ Below w.heap.size w w' := by
  have HG := Lib.hid hg
  have HL := Lib.hid hl
  have HS := Lib.hid hs
  have HR0 := Lib.hid (place_go l p).1
  obtain ⟨R, hR⟩ : ∃ R, R = placeP l p := ⟨_, rfl⟩
  have HH := Lib.hid (show hereP l p = (decide (R < l.length) && (ordAt l p R == 0)) by rw [hR]; rfl)
  have hRl : R ≤ l.length := by rw [hR]; exact (place_go l p).2
  rw [← hR] at HR0 ⊢
  generalize hereP l p = hh at *
  clear hR hg hl hs
  have eg := enters_of Tryd.func72 (by kernel_rfl) rfl
  obtain ⟨F, hF⟩ : ∃ F, F = l.length + 1 := ⟨_, rfl⟩
  rw [← hF] at HR0
  clear hF
  go_enter Tryd.func71, Tryd.ntmps71
  go_wp2
  go_loopg [9, 10, 11] F (fun g vi vj vh wr => ∃ i j : Nat, vi = .int .i64 i ∧ vj = .int .i64 j ∧ i ≤ j ∧ j ≤ l.length ∧ Hid (bsGo g l p i j = some R) ∧ Hid (Below w.heap.size w wr))
  case atStart => exact ⟨0, l.length, rfl, rfl, by omega, by omega, HR0, Lib.hid (Below.refl _ _)⟩
  case round =>
    clear HR0
    obtain ⟨i, j, rfl, rfl, hij, hj, HR, HB⟩ := hrel
    cases gk with
    | zero => exact absurd HR.out (by simp [bsGo])
    | succ g =>
      have hM := HR.out
      clear HR
      unfold bsGo at hM
      by_cases h1 : i < j
      · rw [if_pos h1] at hM
        have h1I : (i : Int) < (j : Int) := by omega
        obtain ⟨h, hh2⟩ : ∃ h, h = (i + j) / 2 := ⟨_, rfl⟩
        rw [← hh2] at hM
        have hhI : ((i : Int) + (j : Int)) / 2 = (h : Int) := by omega
        have hhl : h < l.length := by omega
        have hhij : i ≤ h ∧ h < j := by omega
        obtain ⟨ad, rfl, e0, e1, e2, e3, e4, e5, e6, e7⟩ := item_at (Kd.C_below HL.out HB.out) hhl
        have hsz := HS.out _ (List.getElem_mem hhl)
        have ho : ordAt l p h = orderT (l[h]).1 p := by unfold ordAt; rw [get_at l zIt h hhl]
        rw [ho] at hM
        clear hh2 ho
        generalize l[h] = x at *
        obtain ⟨pa, kd, mo, ui, gi, mt, at_, da⟩ := x
        simp only at e0 e1 e2 e3 e4 e5 e6 e7 hsz hM
        have HC := Lib.hid (ord_any pa kd mo ui gi mt at_ da p wr (HG.out.below HB.out) hsz hp)
        generalize orderT pa p = r at *
        go_wp2_with fail
        refine HC.out.mono ?_
        rintro e w2 ⟨rfl, hb2⟩
        have HB2 := Lib.hid (below_next HB.out hb2)
        clear hb2 HC HB e0 e1 e2 e3 e4 e5 e6 e7
        by_cases hr : r < 0
        · rw [if_pos hr] at hM
          have HM := Lib.hid hM
          have q0 : decide (r < 0) = true := decide_eq_true hr
          clear hM
          go_wp2
          go_roundg g
          case measure => omega
          case rel => exact ⟨h + 1, j, by go_num, rfl, by omega, hj, HM, HB2⟩
        · rw [if_neg hr] at hM
          have HM := Lib.hid hM
          have q0 : decide (r < 0) = false := decide_eq_false hr
          clear hM
          go_wp2
          go_roundg g
          case measure => omega
          case rel => exact ⟨i, h, rfl, rfl, by omega, by omega, HM, HB2⟩
      · rw [if_neg h1] at hM
        have h1I : ¬ (i : Int) < (j : Int) := by omega
        obtain rfl : i = R := Option.some.inj hM
        clear hM
        by_cases h2 : i < l.length
        · have h2I : (i : Int) < (l.length : Int) := by omega
          obtain ⟨ad, rfl, e0, e1, e2, e3, e4, e5, e6, e7⟩ := item_at (Kd.C_below HL.out HB.out) h2
          have hsz := HS.out _ (List.getElem_mem h2)
          have ho : ordAt l p i = orderT (l[i]).1 p := by unfold ordAt; rw [get_at l zIt i h2]
          have hH := HH.out
          rw [ho, decide_eq_true h2, Bool.true_and] at hH
          clear ho HH
          generalize l[i] = x at *
          obtain ⟨pa, kd, mo, ui, gi, mt, at_, da⟩ := x
          simp only at e0 e1 e2 e3 e4 e5 e6 e7 hsz hH
          have HC := Lib.hid (ord_any pa kd mo ui gi mt at_ da p wr (HG.out.below HB.out) hsz hp)
          have HHH := Lib.hid hH
          clear hH
          generalize orderT pa p = r at *
          go_wp2_with fail
          refine HC.out.mono ?_
          rintro e w2 ⟨rfl, hb2⟩
          have HB2 := Lib.hid (below_next HB.out hb2)
          clear hb2 HC HB e0 e1 e2 e3 e4 e5 e6 e7
          go_wp2
          go_ret2
          exact ⟨by rw [HHH.out]; rfl, HB2.out⟩
        · have h2I : ¬ (i : Int) < (l.length : Int) := by omega
          have HHH := Lib.hid (show hh = false by rw [HH.out, decide_eq_false h2, Bool.false_and])
          go_wp2
          go_ret2
          exact ⟨by rw [HHH.out]; rfl, HB.out⟩
set_option maxHeartbeats 1000000 in
theorem at_any (l : List It) (A : Option Addr) (c : Nat) (p : ByteArray) (w : World) (hg : Glob w) (hl : ItemC w A l) (hn : l.length ≤ 1000000) (hs : ∀ x ∈ l, x.1.size < 4294967281) (hp : p.size < 4294967281) :
    Calls Tryd.prog 45 #[.slice A l.length c, .string p] w fun e w' => e = .returned (.tuple #[.int .i64 (placeP l p), .bool (hereP l p)]) ∧ Below w.heap.size w w' := by
  have HC := Lib.hid (search_any l A c p w hg hl hn hs hp)
  clear hg hl hs
  generalize placeP l p = r at *
  generalize hereP l p = q at *
  go_enter Tryd.func45, Tryd.ntmps45
  go_wp2_with (go_at_call 71; refine HC.out.mono ?_; rintro e w1 ⟨rfl, hb⟩; have HB := Lib.hid hb; clear hb)
  go_ret2
  exact ⟨rfl, HB.out⟩
end Go.Proofs.YtfogfkikkekmkaaDoor.DiskAt
