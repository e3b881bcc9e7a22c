/- AirPlays: the book, and a step. -/
import Derived.Test.YtoahkjehjmbojaaAD
import Derived.Test.YtoahkjehjmbojaaOpen3
set_option linter.unusedVariables false
set_option linter.unusedSimpArgs false
namespace Go.Proofs.Ytoahkjehjmbojaa
open Go Go.Eng
theorem Ev.unf {α : Type} {f : Nat → Option α} {r : α} (h : Ev (fun k => f (k + 1)) r) : Ev f r := Ev.step h (fun _ => rfl)
theorem idx_mid {α : Type} {l a b : List α} {x : α} (h : l = a ++ x :: b) : idx l (a.length : Int) = some x := by
  subst h
  rw [idx_at rfl (by simp)]
  simp
def mkP (i : Int) : Packet := ⟨w64 ((-1) - i), 0, []⟩
def big : Nat := 4611686018427387904
theorem same_l1 {l : List Packet} (hl : l.length < big) : ∀ (b a : List Packet), l = a ++ b → Ev (fun k => ysame.l1 k l l (a.length : Int)) true
  | [], a, h => by
    refine Ev.unf ?_
    simp only [ysame.l1]
    exact Ev.neg (by subst h; simp) Ev.ret
  | x :: b, a, h => by
    have ih := same_l1 hl b (a ++ [x]) (by rw [h]; simp)
    have hle : l.length = a.length + (b.length + 1) := by rw [h]; simp
    refine Ev.unf ?_
    simp only [ysame.l1]
    refine Ev.pos (by omega) ?_
    refine Ev.bindc (idx_mid h) ?_
    refine Ev.bindc (idx_mid h) ?_
    refine Ev.pos rfl ?_
    rw [w64_succ (by unfold big at hl; omega)]
    simpa using ih
theorem same_ok {l : List Packet} (hl : l.length < big) : Ev (fun k => ysame k l l) true := by
  unfold ysame
  exact Ev.pos rfl (same_l1 hl l [] rfl)
theorem reads_l1 {l : List Packet} {i : Int} (hl : l.length < big) (hm : ∀ x ∈ l, x = mkP i) : ∀ (b a : List Packet), l = a ++ b → Ev (fun k => yreads.l1 k l i (a.length : Int)) true
  | [], a, h => by
    refine Ev.unf ?_
    simp only [yreads.l1]
    exact Ev.neg (by subst h; simp) Ev.ret
  | x :: b, a, h => by
    have ih := reads_l1 hl hm b (a ++ [x]) (by rw [h]; simp)
    have hle : l.length = a.length + (b.length + 1) := by rw [h]; simp
    refine Ev.unf ?_
    simp only [yreads.l1]
    refine Ev.pos (by omega) ?_
    refine Ev.bindc (idx_mid h) ?_
    refine Ev.pos (hm x (by rw [h]; simp)) ?_
    rw [w64_succ (by unfold big at hl; omega)]
    simpa using ih
theorem reads_ok {l : List Packet} {i : Int} (hl : l.length < big) (hm : ∀ x ∈ l, x = mkP i) : Ev (fun k => yreads k l i) true := reads_l1 hl hm l [] rfl
/-! ### still -/
abbrev LL := List (List Packet)
/-- Each of a row is marked by its number. -/
def Marked (l : LL) (n : Nat) : Prop := ∀ (i : Nat) x, i < n → l[i]? = some x → ∀ y ∈ x, y = mkP i
def Short (l : LL) (m : Nat) : Prop := ∀ x ∈ l, x.length ≤ m
theorem idx_some {α : Type} {l : List α} {i : Nat} {x : α} (h : l[i]? = some x) : idx l (i : Int) = some x := by
  obtain ⟨h1, h2⟩ := List.getElem?_eq_some_iff.1 h
  rw [idx_at rfl h1, h2]
def room : Nat := 1073741824
theorem still_l7 {l g : LL} {w : List Int} (hg : g.length ≤ 5 * room) (hw : w.length = g.length) (hs : Short g 1005) (hm : ∀ (q : Nat) x m, g[q]? = some x → w[q]? = some m → ∀ y ∈ x, y = mkP m) : ∀ (n q : Nat), q + n = g.length → Ev (fun k => y_still.l7 k l g w (q : Int)) true
  | 0, q, h => by
    refine Ev.unf ?_
    simp only [y_still.l7]
    exact Ev.neg (by omega) Ev.ret
  | n + 1, q, h => by
    have ih := still_l7 (l := l) hg hw hs hm n (q + 1) (by omega)
    have h1 : g[q]? = some g[q] := List.getElem?_eq_getElem (by omega)
    have h2 : w[q]? = some w[q] := List.getElem?_eq_getElem (by omega)
    refine Ev.unf ?_
    simp only [y_still.l7]
    refine Ev.pos (by omega) ?_
    refine Ev.bindc (idx_some h1) ?_
    refine Ev.bindc (idx_some h2) ?_
    refine Ev.bind (reads_ok (by have := hs _ (List.mem_of_getElem? h1); unfold big; omega) (hm q _ _ h1 h2)) ?_
    refine Ev.pos rfl ?_
    rw [w64_succ (by unfold room at hg; omega)]
    exact ih
theorem still_l6 {l g : LL} {w : List Int} (hl : l.length ≤ room) (hsl : Short l 1000) (hml : Marked l l.length) (H : Ev (fun k => y_still.l7 k l g w 0) true) : ∀ (n q : Nat), q + n = l.length → Ev (fun k => y_still.l6 k l g w (q : Int)) true
  | 0, q, h => by
    refine Ev.unf ?_
    simp only [y_still.l6, y_still.j4]
    exact Ev.neg (by omega) H
  | n + 1, q, h => by
    have ih := still_l6 hl hsl hml H n (q + 1) (by omega)
    have h1 : l[q]? = some l[q] := List.getElem?_eq_getElem (by omega)
    refine Ev.unf ?_
    simp only [y_still.l6]
    refine Ev.pos (by omega) ?_
    refine Ev.bindc (idx_some h1) ?_
    refine Ev.bind (reads_ok (by have := hsl _ (List.mem_of_getElem? h1); unfold big; omega) (hml q _ (by omega) h1)) ?_
    refine Ev.pos rfl ?_
    rw [w64_succ (by unfold room at hl; omega)]
    exact ih
/-- What the grown ones and their owners are. -/
structure Grown (g : LL) (w : List Int) (n : Nat) : Prop where
  gl : g.length = n
  wl : w.length = n
  sh : Short g 1005
  mrk : ∀ (q : Nat) x m, g[q]? = some x → w[q]? = some m → ∀ y ∈ x, y = mkP m
theorem Grown.add {g : LL} {w : List Int} {n : Nat} {x : List Packet} {m : Int} (h : Grown g w n) (hx : x.length ≤ 1005) (hm : ∀ y ∈ x, y = mkP m) : Grown (g ++ [x]) (w ++ [m]) (n + 1) := by
  refine ⟨by simp [h.gl], by simp [h.wl], fun y hy => ?_, fun q y m' h1 h2 => ?_⟩
  · rcases List.mem_append.1 hy with hy | hy
    · exact h.sh y hy
    · rw [List.mem_singleton] at hy; subst hy; exact hx
  · rcases Nat.lt_or_ge q n with hq | hq
    · rw [List.getElem?_append_left (by rw [h.gl]; exact hq)] at h1
      rw [List.getElem?_append_left (by rw [h.wl]; exact hq)] at h2
      exact h.mrk q y m' h1 h2
    · rw [List.getElem?_append_right (by rw [h.gl]; exact hq), h.gl] at h1
      rw [List.getElem?_append_right (by rw [h.wl]; exact hq), h.wl] at h2
      have hq0 : q - n = 0 := by
        have := (List.getElem?_eq_some_iff.1 h1).1
        simp only [List.length_singleton] at this
        omega
      rw [hq0] at h1 h2
      simp only [List.getElem?_cons_zero, Option.some.injEq] at h1 h2
      subst h1; subst h2
      exact hm
theorem still_l5 {l : LL} {i : Nat} (hi : i < room) (H : ∀ g w, Grown g w (5 * i + 5) → Ev (fun k => y_still.l4 k l ((i + 1 : Nat) : Int) g w) true) : ∀ (n t : Nat), t + n = 5 → ∀ (x : List Packet) g w, x.length ≤ 1000 + t → (∀ y ∈ x, y = mkP i) → Grown g w (5 * i + t) → Ev (fun k => y_still.l5 k l (i : Int) x (t : Int) g w) true
  | 0, t, h, x, g, w, hx, hm, hG => by
    refine Ev.unf ?_
    simp only [y_still.l5]
    refine Ev.neg (by omega) ?_
    rw [w64_succ (by unfold room at hi; omega)]
    exact H g w (by rwa [show 5 * i + 5 = 5 * i + t by omega])
  | n + 1, t, h, x, g, w, hx, hm, hG => by
    have hm' : ∀ y ∈ x ++ [mkP i], y = mkP i := fun y hy => by
      rcases List.mem_append.1 hy with hy | hy
      · exact hm y hy
      · simpa using hy
    have ih := still_l5 hi H n (t + 1) (by omega) (x ++ [mkP i]) (g ++ [x ++ [mkP i]]) (w ++ [(i : Int)]) (by simp; omega) hm' (hG.add (by simp; omega) hm')
    refine Ev.unf ?_
    simp only [y_still.l5]
    refine Ev.pos (by omega) ?_
    refine Ev.bindc (cat_at (by simp; omega)) ?_
    refine Ev.bindc (cat_at (by rw [hG.gl]; simp only [List.length_singleton]; unfold room at hi; omega)) ?_
    refine Ev.bindc (cat_at (by rw [hG.wl]; simp only [List.length_singleton]; unfold room at hi; omega)) ?_
    rw [w64_succ (by omega)]
    exact ih
theorem still_l4 {l : LL} (hl : l.length ≤ room) (hsl : Short l 1000) (hml : Marked l l.length) : ∀ (n i : Nat), i + n = l.length → ∀ g w, Grown g w (5 * i) → Ev (fun k => y_still.l4 k l (i : Int) g w) true
  | 0, i, h, g, w, hG => by
    refine Ev.unf ?_
    simp only [y_still.l4, y_still.j3]
    refine Ev.neg (by omega) ?_
    exact still_l6 hl hsl hml (still_l7 (by rw [hG.gl]; omega) (by rw [hG.wl, hG.gl]) hG.sh hG.mrk _ 0 (by rw [Nat.zero_add])) _ 0 (by rw [Nat.zero_add])
  | n + 1, i, h, g, w, hG => by
    have ih := still_l4 hl hsl hml n (i + 1) (by omega)
    have h1 : l[i]? = some l[i] := List.getElem?_eq_getElem (by omega)
    refine Ev.unf ?_
    simp only [y_still.l4]
    refine Ev.pos (by omega) ?_
    refine Ev.bindc (idx_some h1) ?_
    exact still_l5 (by omega) (fun g' w' hG' => ih g' w' hG') 5 0 rfl _ g w (by have := hsl _ (List.mem_of_getElem? h1); omega) (hml i _ (by omega) h1) hG
theorem upd_some {α : Type} {l : List α} {i : Nat} {x y : α} (h : l[i]? = some x) : upd l (i : Int) y = some (l.set i y) := upd_at (List.getElem?_eq_some_iff.1 h).1
theorem Short.set {l : LL} {m i : Nat} {x : List Packet} (h : Short l m) (hx : x.length ≤ m) : Short (l.set i x) m := fun y hy => by
  rcases List.mem_or_eq_of_mem_set hy with hy | rfl
  · exact h y hy
  · exact hx
theorem still_l3 {i L0 : Nat} (hi : i < room) (H : ∀ l : LL, l.length = L0 → Short l 1000 → Marked l (i + 1) → Ev (fun k => y_still.l2 k ((i + 1 : Nat) : Int) l) true) : ∀ (n j : Nat) (l : LL) (x : List Packet), l.length = L0 → Short l 1000 → Marked l i → l[i]? = some x → j + n = x.length → (∀ (q : Nat) y, q < j → x[q]? = some y → y = mkP i) → Ev (fun k => y_still.l3 k (i : Int) (j : Int) l) true
  | 0, j, l, x, hl, hs, hm, hx, h, hq => by
    refine Ev.unf ?_
    simp only [y_still.l3]
    refine Ev.bindc (idx_some hx) ?_
    refine Ev.neg (by omega) ?_
    rw [w64_succ (by unfold room at hi; omega)]
    refine H l hl hs (fun q z hq1 hz y hy => ?_)
    rcases Nat.lt_or_ge q i with hqi | hqi
    · exact hm q z hqi hz y hy
    · obtain rfl : q = i := by omega
      rw [hx, Option.some.injEq] at hz
      subst hz
      obtain ⟨p, hp, rfl⟩ := List.getElem_of_mem hy
      exact hq p _ (by omega) (List.getElem?_eq_getElem hp)
  | n + 1, j, l, x, hl, hs, hm, hx, h, hq => by
    have hjx : x[j]? = some x[j] := List.getElem?_eq_getElem (by omega)
    have hxl := hs x (List.mem_of_getElem? hx)
    have hil := (List.getElem?_eq_some_iff.1 hx).1
    refine Ev.unf ?_
    simp only [y_still.l3]
    refine Ev.bindc (idx_some hx) ?_
    refine Ev.pos (by omega) ?_
    refine Ev.bindc (idx_some hx) ?_
    refine Ev.bindc (idx_some hjx) ?_
    refine Ev.bindc (upd_some hjx) ?_
    refine Ev.bindc (upd_some hx) ?_
    rw [w64_succ (by omega)]
    refine still_l3 hi H n (j + 1) (l.set i (x.set j (mkP i))) (x.set j (mkP i)) (by rw [List.length_set]; exact hl) (hs.set (by rw [List.length_set]; exact hxl)) (fun q z hq1 hz => ?_) (by rw [List.getElem?_set, if_pos rfl, if_pos hil]) (by rw [List.length_set]; omega) (fun q y hq1 hy => ?_)
    · rw [List.getElem?_set, if_neg (by omega)] at hz
      exact hm q z hq1 hz
    · rw [List.getElem?_set] at hy
      by_cases e : j = q
      · subst e
        rw [if_pos rfl, if_pos (by omega), Option.some.injEq] at hy
        exact hy.symm
      · rw [if_neg e] at hy
        exact hq q y (by omega) hy
theorem still_l2 : ∀ (n i : Nat) (l : LL), i + n = l.length → l.length ≤ room → Short l 1000 → Marked l i → Ev (fun k => y_still.l2 k (i : Int) l) true
  | 0, i, l, h, hl, hs, hm => by
    refine Ev.unf ?_
    simp only [y_still.l2, y_still.j2]
    refine Ev.neg (by omega) ?_
    exact still_l4 hl hs (by rwa [show l.length = i by omega]) _ 0 (by rw [Nat.zero_add]) [] [] ⟨rfl, rfl, by simp [Short], by simp⟩
  | n + 1, i, l, h, hl, hs, hm => by
    have h1 : l[i]? = some l[i] := List.getElem?_eq_getElem (by omega)
    refine Ev.unf ?_
    simp only [y_still.l2]
    refine Ev.pos (by omega) ?_
    exact still_l3 (L0 := l.length) (by omega) (fun l' hl' hs' hm' => still_l2 n (i + 1) l' (by omega) (by omega) hs' hm') _ 0 l l[i] rfl hs hm h1 (by rw [Nat.zero_add]) (fun q y hq => by omega)
theorem still_l1 {F : LL} (hl : F.length ≤ room) (hs : Short F 1000) : ∀ (n i : Nat), i + n = F.length → Ev (fun k => y_still.l1 k F F (i : Int)) true
  | 0, i, h => by
    refine Ev.unf ?_
    simp only [y_still.l1, y_still.j1]
    refine Ev.neg (by omega) ?_
    refine Ev.bindc (cat_at (by simp; unfold room at hl; omega)) ?_
    rw [List.nil_append]
    exact still_l2 _ 0 F (by rw [Nat.zero_add]) hl hs (fun q x hq => by omega)
  | n + 1, i, h => by
    have ih := still_l1 hl hs n (i + 1) (by omega)
    have h1 : F[i]? = some F[i] := List.getElem?_eq_getElem (by omega)
    refine Ev.unf ?_
    simp only [y_still.l1]
    refine Ev.pos (by omega) ?_
    refine Ev.bindc (idx_some h1) ?_
    refine Ev.bindc (idx_some h1) ?_
    refine Ev.bind (same_ok (by have := hs _ (List.mem_of_getElem? h1); unfold big; omega)) ?_
    refine Ev.pos rfl ?_
    rw [w64_succ (by unfold room at hl; omega)]
    exact ih
theorem still_ok {F : LL} (hl : F.length ≤ room) (hs : Short F 1000) : Ev (fun k => y_still k F F) true := still_l1 hl hs _ 0 (by rw [Nat.zero_add])
end Go.Proofs.Ytoahkjehjmbojaa
