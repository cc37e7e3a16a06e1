/- disk: a file made where nothing was leads nowhere else; what was flushed lasts, a sure file isn't cut. -/
import Derived.Test.YtibmfjacfbpfgaaGreatDoorActG
set_option linter.unusedVariables false
set_option linter.unusedSimpArgs false
namespace Go.Proofs.YtibmfjacfbpfgaaGreatDoor.LastLaw
open Stab SortLaw YtibmfjacfbpfgaaGreatDoor.Item TreeLaw NameLaw NameWalk NameOrd NameRef NameKeepLaw SortIns NodeRes TreeNodes FillLaw DiffLaw RealLaw DoneLaw KeepLaw RealKeep OpLaw OpKeep DkLaw ActLaw
theorem wo_twice (s : List It) (p : ByteArray) : woP (woP s p) p = woP s p := by
 unfold woP;rw [List.filter_filter]
 congr 1
 funext x
 simp
theorem wo_put (s : List It) (x : It) : woP (putP s x) x.1 = woP s x.1 := by
 have h : woP ((woP s x.1).take ((woP s x.1).findIdx (behind x.1)) ++ x :: (woP s x.1).drop ((woP s x.1).findIdx (behind x.1))) x.1 = woP ((woP s x.1).take ((woP s x.1).findIdx (behind x.1)) ++ (woP s x.1).drop ((woP s x.1).findIdx (behind x.1))) x.1 := by
  show List.filter _ _ = List.filter _ _
  rw [List.filter_append, List.filter_cons, if_neg (by rw [isAt_self]; simp), ← List.filter_append]
 show woP ((woP s x.1).take ((woP s x.1).findIdx (behind x.1)) ++ x :: (woP s x.1).drop ((woP s x.1).findIdx (behind x.1))) x.1 = _
 rw [h, List.take_append_drop];exact wo_twice s x.1
theorem put_put (s : List It) {x y : It} (e : y.1 = x.1) : putP (putP s x) y = putP s y := by
 have h : woP (putP s x) y.1 = woP s y.1 := by rw [e]; exact wo_put s x
 show (woP (putP s x) y.1).take ((woP (putP s x) y.1).findIdx (behind y.1)) ++ y :: (woP (putP s x) y.1).drop ((woP (putP s x) y.1).findIdx (behind y.1)) = _
 rw [h]; rfl
theorem wo_free {s : List It} (hs : RightP s) {p : ByteArray} (hp : p.data.toList ≠ []) (h : kindOf s p = 0) : woP s p = s := by
 refine List.filter_eq_self.2 (fun y hy => ?_)
 cases hq : isAt p y with
 | false => rfl
 | true =>
  exfalso;have e := isAt_eq hq;obtain ⟨h1, h2⟩ := (right_iff s).1 hs;have hf := strict_find h1 hy;rw [e] at hf;rw [kind_find hp, hf] at h;have ho := (h2 y hy).2.1;unfold okKind at ho;simp only [Bool.and_eq_true, decide_eq_true_eq] at ho;have h : y.2.1 = 0 := h;omega
theorem walk_put {s : List It} {x : It} (hx : kindOf s x.1 = 0) : ∀ (n : Nat) (w : Wk) (p : ByteArray), (walkR s n w p).2.2 = 0 → walkR (putP s x) n w p = walkR s n w p
 | n, w, p => by
  have fold : ∀ m, m < n → ∀ (l : List ByteArray) (w : Wk), (l.foldl (walkR s m) w).2.2 = 0 → l.foldl (walkR (putP s x) m) w = l.foldl (walkR s m) w := by
   intro m hm l
   induction l with
   | nil => intro w _; rfl
   | cons q l ih =>
    intro w he;rw [List.foldl_cons] at he;rw [List.foldl_cons, List.foldl_cons]
    by_cases hq : (walkR s m w q).2.2 = 0
    ·
     rw [walk_put hx m w q hq]; exact ih _ he
    rw [fold_err s m l _ hq] at he; exact absurd he hq
  have hk : ∀ q, kindOf s q ≠ 0 → kindOf (putP s x) q = kindOf s q ∧ dataAt (putP s x) q = dataAt s q := fun q hq => by
   have hne : q ≠ x.1 := fun e => hq (by rw [e]; exact hx)
   refine ⟨?_, ?_⟩
   ·
    by_cases h0 : q.data.toList = []
    ·
     rw [kind_nil _ _ h0, kind_nil _ _ h0]
    rw [kind_put s x q h0, if_neg hne]
   unfold dataAt;rw [find_put_ne s x hne]
  intro he;unfold walkR at he ⊢
  by_cases h1 : w.2.2 ≠ 0 ∨ p.data.toList = [] ∨ p = dot1
  ·
   rw [if_pos h1, if_pos h1]
  rw [if_neg h1] at he;rw [if_neg h1, if_neg h1]
  by_cases h2 : p = dot2
  ·
   rw [if_pos h2, if_pos h2]
  rw [if_neg h2] at he;rw [if_neg h2, if_neg h2]
  by_cases h3 : kindOf s (joinS w.1 p) = 0
  ·
   rw [if_pos h3] at he; cases he
  obtain ⟨hk1, hk2⟩ := hk _ h3;rw [hk1];rw [if_neg h3] at he;rw [if_neg h3, if_neg h3]
  by_cases h4 : kindOf s (joinS w.1 p) = 2
  ·
   rw [if_pos h4] at he; cases he
  rw [if_neg h4] at he;rw [if_neg h4, if_neg h4]
  by_cases h5 : kindOf s (joinS w.1 p) = 1
  ·
   rw [if_pos h5, if_pos h5]
  rw [if_neg h5] at he;rw [if_neg h5, if_neg h5]
  by_cases h6 : kindOf s (joinS w.1 p) = 3
  ·
   by_cases h7 : 16 < w.2.1 + 1
   ·
    rw [if_pos h6, if_pos h7] at he; cases he
   rw [if_pos h6, if_neg h7] at he;rw [if_pos h6, if_neg h7, if_pos h6, if_neg h7]
   cases n with
   | zero => cases he
   | succ m =>
    simp only at he ⊢;rw [hk2];exact fold m (Nat.lt_succ_self m) _ _ he
  rw [if_neg h6, if_neg h6]
termination_by n => n
theorem fold_put {s : List It} {x : It} (hx : kindOf s x.1 = 0) (n : Nat) : ∀ (l : List ByteArray) (w : Wk), (l.foldl (walkR s n) w).2.2 = 0 → l.foldl (walkR (putP s x) n) w = l.foldl (walkR s n) w
 | [], w, _ => rfl
 | q :: l, w, he => by
  rw [List.foldl_cons] at he;rw [List.foldl_cons, List.foldl_cons]
  by_cases hq : (walkR s n w q).2.2 = 0
  ·
   rw [walk_put hx n w q hq]; exact fold_put hx n l _ he
  rw [fold_err s n l _ hq] at he; exact absurd he hq
theorem real_put {s : List It} {x : It} {path : ByteArray} (hx : kindOf s x.1 = 0) (h : (realP s path).2 = 0) : realP (putP s x) path = realP s path := by
 unfold realP at h ⊢
 by_cases h1 : checkE path ≠ 0 ∨ checkD path = true
 ·
  rw [if_pos h1, if_pos h1]
 rw [if_neg h1] at h;rw [if_neg h1, if_neg h1];simp only at h ⊢
 have hw : ((partsT (checkP path)).dropLast.foldl (walkR s 16) (⟨#[]⟩, 0, 0)).2.2 = 0 := by
  by_cases h2 : ((partsT (checkP path)).dropLast.foldl (walkR s 16) (⟨#[]⟩, 0, 0)).2.2 = 0
  ·
   exact h2
  rw [if_pos h2] at h; exact absurd h h2
 rw [fold_put hx 16 _ _ hw]
def file0 : Nd := (2, 0, 0, 0, 0, 0, ⟨#[]⟩)
abbrev calmD (s : List It) (q : List Chg) (lim st : Int) : Dk := ⟨s, q, lim, -1, 0, false, st⟩
theorem begin_calm (s : List It) (q : List Chg) (lim st : Int) : beginD (calmD s q lim st) = (0, calmD s q lim st) := rfl
theorem op_calm (s : List It) (q : List Chg) (lim st : Int) (k : Int) (path tp : ByteArray) (n : Nd) : opD nzP (calmD s q lim st) k path tp n = if (ownD nzP (calmD s q lim st) k path tp n).1 = 0 then (0, endD (ownD nzP (calmD s q lim st) k path tp n).2) else ownD nzP (calmD s q lim st) k path tp n := by
 unfold opD;rw [begin_calm];simp only;rw [if_neg (by decide)]
theorem flush_calm (d : Dk) (path tp : ByteArray) (n : Nd) (keep mask cut : Int) : opD nzP (crashD d keep mask cut) 6 path tp n = (0, calmD (crashD d keep mask cut).shows [] d.limit (d.steps + 1)) := by
 show opD nzP (calmD (crashD d keep mask cut).base [] d.limit d.steps) 6 path tp n = _
 rw [op_calm];unfold ownD;rw [if_pos rfl];rfl
theorem crash_shows (d : Dk) (keep mask cut : Int) : (crashD d keep mask cut).shows = (crashD d keep mask cut).base := rfl
theorem own_make (d : Dk) (path tp : ByteArray) : ownD nzP d 0 path tp file0 = if (realP d.shows path).2 ≠ 0 then ((realP d.shows path).2, d) else if kindOf d.shows (realP d.shows path).1 ≠ 0 then (41, d) else if d.limit < (0 : Int) + sumO d.shows (realP d.shows path).1 then (50, d) else (0, waitD d (0, (realP d.shows path).1, ⟨#[]⟩, file0, false)) := by
 unfold ownD;rw [if_neg (show ¬ (0 : Int) = 6 by decide)]
 dsimp only
 rw [if_pos (rfl : (0 : Int) = 0), if_neg (show ¬ (file0.1 < 1 ∨ 3 < file0.1 ∨ (file0.1 = 1 ∧ 0 < file0.2.2.2.2.2.2.size)) by unfold file0; simp)];rfl
theorem own_write (d : Dk) (path tp : ByteArray) (n : Nd) : ownD nzP d 1 path tp n = if (realP d.shows path).2 ≠ 0 then ((realP d.shows path).2, d) else if kindOf d.shows (realP d.shows path).1 = 0 then (40, d) else if kindOf d.shows (realP d.shows path).1 ≠ 2 then (42, d) else if d.limit < (n.2.2.2.2.2.2.size : Int) + sumO d.shows (realP d.shows path).1 then (50, d) else (0, waitD d (1, (realP d.shows path).1, ⟨#[]⟩, (0, 0, 0, 0, 0, 0, n.2.2.2.2.2.2), false)) := by
 unfold ownD;rw [if_neg (show ¬ (1 : Int) = 6 by decide)]
 dsimp only
 rw [if_neg (show ¬ (1 : Int) = 0 by decide), if_pos (rfl : (1 : Int) = 1)];rfl
theorem own_sync (d : Dk) (path tp : ByteArray) (n : Nd) : ownD nzP d 5 path tp n = if (realP d.shows path).2 ≠ 0 then ((realP d.shows path).2, d) else if kindOf d.shows (realP d.shows path).1 = 0 then (40, d) else if kindOf d.shows (realP d.shows path).1 ≠ 2 then (42, d) else (0, { d with waits := d.waits.map (sureC (realP d.shows path).1) }) := by
 unfold ownD;rw [if_neg (show ¬ (5 : Int) = 6 by decide)]
 dsimp only
 rw [if_neg (show ¬ (5 : Int) = 0 by decide), if_neg (show ¬ (5 : Int) = 1 by decide), if_pos (rfl : (5 : Int) = 5)]
theorem make_ok {s : List It} {lim st : Int} {path tp : ByteArray} (h : (opD nzP (calmD s [] lim st) 0 path tp file0).1 = 0) : (realP s path).2 = 0 ∧ kindOf s (realP s path).1 = 0 ∧ (opD nzP (calmD s [] lim st) 0 path tp file0).2 = calmD s [(0, (realP s path).1, ⟨#[]⟩, file0, false)] lim (st + 1) := by
 rw [op_calm] at h ⊢;have e := own_make (calmD s [] lim st) path tp;rw [show (calmD s [] lim st).shows = s from rfl] at e
 by_cases h1 : (realP s path).2 = 0
 ·
  rw [if_neg (fun e => e h1)] at e
  by_cases h2 : kindOf s (realP s path).1 = 0
  ·
   rw [if_neg (fun e => e h2)] at e
   by_cases h3 : (calmD s [] lim st).limit < (0 : Int) + sumO s (realP s path).1
   ·
    rw [if_pos h3] at e; rw [e] at h; cases h
   rw [if_neg h3] at e; rw [e];exact ⟨h1, h2, rfl⟩
  rw [if_pos h2] at e; rw [e] at h; cases h
 rw [if_pos h1] at e;rw [e] at h;have h : (if (realP s path).2 = 0 then (0, endD (calmD s [] lim st)) else ((realP s path).2, calmD s [] lim st)).1 = 0 := h;rw [if_neg h1] at h; exact absurd h h1
theorem made_shows (s : List It) (r : ByteArray) (lim st : Int) (b : Bool) : (calmD s [(0, r, ⟨#[]⟩, file0, b)] lim st).shows = putP s (r, file0) := rfl
def fileN (data : ByteArray) : Nd := (2, 0, 0, 0, 0, 0, data)
theorem two_done (s : List It) (r data : ByteArray) (b c : Bool) : [(0, r, ⟨#[]⟩, file0, b), (1, r, ⟨#[]⟩, (0, 0, 0, 0, 0, 0, data), c)].foldl doneP s = putP s (r, fileN data) := by
 show doneP (putP s (r, file0)) (1, r, ⟨#[]⟩, (0, 0, 0, 0, 0, 0, data), c) = _
 unfold doneP;rw [if_neg (show ¬ (1 : Int) = 0 by decide)];simp only;rw [find_put s (r, file0)]
 show putP (putP s (r, file0)) (r, fileN data) = _
 exact put_put s rfl
theorem write_ok {s : List It} {r path : ByteArray} {lim st : Int} (hr : realP s path = (r, 0)) (hn : r.data.toList ≠ []) (hk : kindOf s r = 0) (tp : ByteArray) (n : Nd) (hf : (n.2.2.2.2.2.2.size : Int) + sumO (putP s (r, file0)) r ≤ lim) : opD nzP (calmD s [(0, r, ⟨#[]⟩, file0, false)] lim st) 1 path tp n = (0, calmD s [(0, r, ⟨#[]⟩, file0, false), (1, r, ⟨#[]⟩, (0, 0, 0, 0, 0, 0, n.2.2.2.2.2.2), false)] lim (st + 1)) := by
 have e : realP (putP s (r, file0)) path = (r, 0) := by rw [real_put (x := (r, file0)) hk (by rw [hr])]; exact hr
 have k2 : kindOf (putP s (r, file0)) r = 2 := by rw [kind_put s (r, file0) r hn, if_pos rfl]; rfl
 have o := own_write (calmD s [(0, r, ⟨#[]⟩, file0, false)] lim st) path tp n;rw [made_shows, e] at o;simp only at o;rw [k2, if_neg (fun h => h rfl), if_neg (show ¬ (2 : Int) = 0 by decide), if_neg (fun h => h rfl), if_neg (by omega)] at o;rw [op_calm, o];rfl
theorem sync_ok {s : List It} {r path data : ByteArray} {lim st : Int} (hr : realP s path = (r, 0)) (hn : r.data.toList ≠ []) (hk : kindOf s r = 0) (tp : ByteArray) (n : Nd) : opD nzP (calmD s [(0, r, ⟨#[]⟩, file0, false), (1, r, ⟨#[]⟩, (0, 0, 0, 0, 0, 0, data), false)] lim st) 5 path tp n = (0, calmD s [(0, r, ⟨#[]⟩, file0, true), (1, r, ⟨#[]⟩, (0, 0, 0, 0, 0, 0, data), true)] lim (st + 1)) := by
 have hsh : (calmD s [(0, r, ⟨#[]⟩, file0, false), (1, r, ⟨#[]⟩, (0, 0, 0, 0, 0, 0, data), false)] lim st).shows = putP s (r, fileN data) := two_done s r data false false;have e : realP (putP s (r, fileN data)) path = (r, 0) := by rw [real_put (x := (r, fileN data)) hk (by rw [hr])]; exact hr
 have k2 : kindOf (putP s (r, fileN data)) r = 2 := by rw [kind_put s (r, fileN data) r hn, if_pos rfl]; rfl
 have hs : [(0, r, ⟨#[]⟩, file0, false), (1, r, ⟨#[]⟩, (0, 0, 0, 0, 0, 0, data), false)].map (sureC r) = [((0 : Int), r, (⟨#[]⟩ : ByteArray), file0, true), (1, r, ⟨#[]⟩, (0, 0, 0, 0, 0, 0, data), true)] := by
  unfold sureC;simp
 have o := own_sync (calmD s [(0, r, ⟨#[]⟩, file0, false), (1, r, ⟨#[]⟩, (0, 0, 0, 0, 0, 0, data), false)] lim st) path tp n;rw [hsh, e] at o;simp only at o;rw [k2, if_neg (fun h => h rfl), if_neg (show ¬ (2 : Int) = 0 by decide), if_neg (fun h => h rfl), hs] at o;rw [op_calm, o];rfl
theorem go_sure {mask cut : Int} (b : Nat) (k : Int) (p t : ByteArray) (n : Nd) (l : List Chg) (s : List It) : crashGo mask cut b ((k, p, t, n, true) :: l) s = crashGo mask cut b l (doneP s (k, p, t, n, true)) := by
 show (if mayCut (k, p, t, n, true) = true then _ else _) = _
 rw [if_neg (by unfold mayCut; simp)]
theorem lasts_law {s : List It} (hT : RightP s) {r data : ByteArray} (hn : r.data.toList ≠ []) (hk : kindOf s r = 0) (lim st keep mask cut : Int) :
  (keep ≤ 0 → (crashD (calmD s [(0, r, ⟨#[]⟩, file0, true), (1, r, ⟨#[]⟩, (0, 0, 0, 0, 0, 0, data), true)] lim st) keep mask cut).shows = s) ∧
  (0 < keep → findP (crashD (calmD s [(0, r, ⟨#[]⟩, file0, true), (1, r, ⟨#[]⟩, (0, 0, 0, 0, 0, 0, data), true)] lim st) keep mask cut).shows r = some (r, fileN (if keep = 1 then ⟨#[]⟩ else data)) ∧ woP (crashD (calmD s [(0, r, ⟨#[]⟩, file0, true), (1, r, ⟨#[]⟩, (0, 0, 0, 0, 0, 0, data), true)] lim st) keep mask cut).shows r = s) := by
 have key : ∀ x : Nd, findP (putP s (r, x)) r = some (r, x) ∧ woP (putP s (r, x)) r = s := fun x => ⟨find_put s (r, x), (wo_put s (r, x)).trans (wo_free hT hn hk)⟩
 rw [crash_shows]
 show (keep ≤ 0 → crashGo mask cut 0 (List.take (max keep 0).toNat [(0, r, ⟨#[]⟩, file0, true), (1, r, ⟨#[]⟩, (0, 0, 0, 0, 0, 0, data), true)]) s = s) ∧ (0 < keep → findP (crashGo mask cut 0 (List.take (max keep 0).toNat [(0, r, ⟨#[]⟩, file0, true), (1, r, ⟨#[]⟩, (0, 0, 0, 0, 0, 0, data), true)]) s) r = _ ∧ woP (crashGo mask cut 0 (List.take (max keep 0).toNat [(0, r, ⟨#[]⟩, file0, true), (1, r, ⟨#[]⟩, (0, 0, 0, 0, 0, 0, data), true)]) s) r = s)
 refine ⟨fun h => ?_, fun h => ?_⟩
 ·
  rw [show (max keep 0).toNat = 0 by omega]; rfl
 by_cases h1 : keep = 1
 ·
  subst h1;rw [if_pos rfl]
  show findP (crashGo mask cut 0 [(0, r, ⟨#[]⟩, file0, true)] s) r = _ ∧ woP (crashGo mask cut 0 [(0, r, ⟨#[]⟩, file0, true)] s) r = s
  rw [go_sure];exact key file0
 rw [if_neg h1, List.take_of_length_le (by show 2 ≤ _; omega), go_sure, go_sure]
 show findP ([(0, r, ⟨#[]⟩, file0, true), (1, r, ⟨#[]⟩, (0, 0, 0, 0, 0, 0, data), true)].foldl doneP s) r = _ ∧ woP ([(0, r, ⟨#[]⟩, file0, true), (1, r, ⟨#[]⟩, (0, 0, 0, 0, 0, 0, data), true)].foldl doneP s) r = s
 rw [two_done];exact key (fileN data)
end Go.Proofs.YtibmfjacfbpfgaaGreatDoor.LastLaw
