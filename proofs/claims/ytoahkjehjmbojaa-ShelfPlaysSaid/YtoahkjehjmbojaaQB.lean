/- ShelfPlays: the book of lists. -/
import Derived.Test.YtoahkjehjmbojaaQA
import Derived.Test.YtoahkjehjmbojaaPH
set_option linter.unusedVariables false
set_option linter.unusedSimpArgs false
namespace Go.Proofs.Ytoahkjehjmbojaa
open Go Go.Eng
abbrev LK := List (List KeyS)
def mkK (i : Int) : KeyS := ⟨[109, 97, 114, 107], i⟩
def room : Nat := 8589934592
def ShortK (l : LK) (m : Nat) : Prop := ∀ x ∈ l, x.length ≤ m
/-- The kept lists: six of each. -/
structure Kept (all : LK) (n : Nat) : Prop where
  len : all.length = n
  sh : ShortK all 1048582
  mrk : ∀ (q : Nat) x, all[q]? = some x → ∀ y ∈ x, y = mkK ((q / 6 : Nat) : Int)
theorem idx_some {α : Type} {l : List α} {i : Nat} {x : α} (h : l[i]? = some x) : idx l (i : Int) = some x := by
  obtain ⟨h1, h2⟩ := List.getElem?_eq_some_iff.1 h
  rw [idx_at rfl h1, h2]
theorem upd_some {α : Type} {l : List α} {i : Nat} {x y : α} (h : l[i]? = some x) : upd l (i : Int) y = some (l.set i y) := upd_at (List.getElem?_eq_some_iff.1 h).1
theorem mark_ok (i : Int) (f : Nat) : sh_mark f i = some (mkK i) := rfl
variable {F : LK} {all : LK} {n : Nat} {B : BookS}
/-! the last look -/
theorem still_l7 {l2 l3 : LK} {q : Nat} {x : List KeyS} {R} (hq : q < 6 * room) (hx : l3[q]? = some x) (hm : ∀ y ∈ x, y = mkK ((q / 6 : Nat) : Int)) (hs : x.length ≤ 1048582) (H : Ev (fun f => bs_still.l6 f B l2 l3 ((q + 1 : Nat) : Int)) R) :
    ∀ (n j : Nat), j + n = x.length → Ev (fun f => bs_still.l7 f B l2 l3 (q : Int) (j : Int)) R
  | 0, j, h => by
    refine Ev.unf ?_
    simp only [bs_still.l7]
    refine Ev.bindc (idx_some hx) (Ev.neg (by omega) ?_)
    rw [w64_succ (by unfold room at hq; omega)]
    exact H
  | n + 1, j, h => by
    have ih := still_l7 hq hx hm hs H n (j + 1) (by omega)
    have hj : x[j]? = some x[j] := List.getElem?_eq_getElem (by omega)
    have hd : w64 (Int.tdiv (q : Int) 6) = ((q / 6 : Nat) : Int) := by
      have h1 : Int.tdiv (q : Int) 6 = ((q / 6 : Nat) : Int) := rfl
      have h2 : q / 6 ≤ q := Nat.div_le_self _ _
      unfold room at hq
      rw [h1, w64_of (by omega) (by omega)]
    refine Ev.unf ?_
    simp only [bs_still.l7]
    refine Ev.bindc (idx_some hx) (Ev.pos (by omega) (Ev.bindc (idx_some hx) (Ev.bindc (idx_some hj) (Ev.bind (Ev.all (mark_ok _)) ?_))))
    rw [hd]
    refine Ev.pos (hm _ (List.mem_of_getElem? hj)) ?_
    rw [w64_succ (by omega)]
    exact ih
theorem still_l6 {l2 l3 : LK} (hK : Kept l3 n) (hn : n ≤ 6 * room) : ∀ (k q : Nat), q + k = n → Ev (fun f => bs_still.l6 f B l2 l3 (q : Int)) (true, ⟨[], [], l3, w64 (B.lists + (l2.length : Int))⟩)
  | 0, q, h => by
    refine Ev.unf ?_
    simp only [bs_still.l6]
    exact Ev.neg (by rw [hK.len]; omega) Ev.ret
  | k + 1, q, h => by
    have ih := still_l6 (l2 := l2) hK hn k (q + 1) (by omega)
    have hql : q < l3.length := by rw [hK.len]; omega
    have hq : l3[q]? = some l3[q] := List.getElem?_eq_getElem hql
    refine Ev.unf ?_
    simp only [bs_still.l6]
    refine Ev.pos (by rw [hK.len]; omega) ?_
    exact still_l7 (by omega) hq (hK.mrk q _ hq) (hK.sh _ (List.mem_of_getElem? hq)) ih _ 0 (by rw [Nat.zero_add])
theorem Kept.add {x : List KeyS} (h : Kept all n) (hx : x.length ≤ 1048582) (hm : ∀ y ∈ x, y = mkK ((n / 6 : Nat) : Int)) : Kept (all ++ [x]) (n + 1) := by
  refine ⟨by simp [h.len], fun y hy => ?_, fun q y h1 => ?_⟩
  · rcases List.mem_append.1 hy with hy | hy
    · exact h.sh y hy
    · rw [List.mem_singleton] at hy; subst hy; exact hx
  · rcases Nat.lt_or_ge q n with hq | hq
    · rw [List.getElem?_append_left (by rw [h.len]; exact hq)] at h1
      exact h.mrk q y h1
    · rw [List.getElem?_append_right (by rw [h.len]; exact hq), h.len] at h1
      have hq0 : q - n = 0 := by
        have := (List.getElem?_eq_some_iff.1 h1).1
        simp only [List.length_singleton] at this
        omega
      rw [hq0] at h1
      simp only [List.getElem?_cons_zero, Option.some.injEq] at h1
      subst h1
      obtain rfl : q = n := by omega
      exact hm
/-! growing -/
/-- Each of a row is marked by its number. -/
def MarkedK (l : LK) (c n : Nat) : Prop := ∀ (i : Nat) x, i < n → l[i]? = some x → ∀ y ∈ x, y = mkK ((c + i : Nat) : Int)
theorem still_l4 {l : LK} {c : Nat} (hB : B.lists = (c : Int)) (hc : c + l.length ≤ room) (hs : ShortK l 1048576) (hm : MarkedK l c l.length) : ∀ (k i : Nat), i + k = l.length → ∀ al, Kept al (6 * (c + i)) → ∃ al', Kept al' (6 * (c + l.length)) ∧ Ev (fun f => bs_still.l4 f B l (i : Int) al) (true, ⟨[], [], al', w64 (B.lists + (l.length : Int))⟩)
  | 0, i, h, al, hK => by
    refine ⟨al, by rwa [show l.length = i by omega], ?_⟩
    refine Ev.unf ?_
    simp only [bs_still.l4, bs_still.j3]
    refine Ev.neg (by omega) ?_
    exact still_l6 hK (by omega) _ 0 (by rw [Nat.zero_add])
  | k + 1, i, h, al, hK => by
    have h1 : l[i]? = some l[i] := List.getElem?_eq_getElem (by omega)
    -- the result is told by the lists alone: it is the same for each
    have hrun : ∃ al', Kept al' (6 * (c + i) + 6) ∧ ∀ R, Ev (fun f => bs_still.l4 f B l ((i + 1 : Nat) : Int) al') R → Ev (fun f => bs_still.l4 f B l (i : Int) al) R := by
      have hgo : ∀ (k t : Nat), t + k = 6 → ∀ (x : List KeyS) (al : LK), x.length ≤ 1048576 + t → (∀ y ∈ x, y = mkK ((c + i : Nat) : Int)) → Kept al (6 * (c + i) + t) → ∃ al', Kept al' (6 * (c + i) + 6) ∧ ∀ R, Ev (fun f => bs_still.l4 f B l ((i + 1 : Nat) : Int) al') R → Ev (fun f => bs_still.l5 f B l (i : Int) x (t : Int) al) R := by
        intro k
        induction k with
        | zero =>
          intro t ht x al hx hmx hK
          obtain rfl : t = 6 := by omega
          exact ⟨al, hK, fun R hR => by
            refine Ev.unf ?_
            simp only [bs_still.l5]
            refine Ev.neg (by omega) ?_
            rw [w64_succ (by unfold room at hc; omega)]
            exact hR⟩
        | succ k ih =>
          intro t ht x al hx hmx hK
          have hm' : ∀ y ∈ x ++ [mkK ((c + i : Nat) : Int)], y = mkK ((c + i : Nat) : Int) := fun y hy => by
            rcases List.mem_append.1 hy with hy | hy
            · exact hmx y hy
            · simpa using hy
          have hdiv : (6 * (c + i) + t) / 6 = c + i := by omega
          obtain ⟨al', g1, g2⟩ := ih (t + 1) (by omega) (x ++ [mkK ((c + i : Nat) : Int)]) (al ++ [x]) (by simp; omega) hm' (hK.add (by omega) (by show ∀ y ∈ x, y = mkK (((6 * (c + i) + t) / 6 : Nat) : Int); rw [hdiv]; exact hmx))
          refine ⟨al', g1, fun R hR => ?_⟩
          have hw : w64 (B.lists + (i : Int)) = ((c + i : Nat) : Int) := by unfold room at hc; rw [hB, w64_of (by omega) (by omega)]; omega
          refine Ev.unf ?_
          simp only [bs_still.l5]
          refine Ev.pos (by omega) (Ev.bindc (cat_at (by rw [hK.len]; simp; unfold room at hc; omega)) (Ev.bind (Ev.all (mark_ok _)) ?_))
          rw [hw]
          refine Ev.bindc (cat_at (by simp; omega)) ?_
          rw [w64_succ (by omega)]
          exact g2 R hR
      obtain ⟨al', g1, g2⟩ := hgo 6 0 rfl l[i] al (by have := hs _ (List.mem_of_getElem? h1); omega) (hm i _ (by omega) h1) hK
      refine ⟨al', g1, fun R hR => ?_⟩
      refine Ev.unf ?_
      simp only [bs_still.l4]
      exact Ev.pos (by omega) (Ev.bindc (idx_some h1) (g2 R hR))
    obtain ⟨al', g1, g2⟩ := hrun
    obtain ⟨al2, h2, h3⟩ := still_l4 hB hc hs hm k (i + 1) (by omega) al' (by rwa [show 6 * (c + (i + 1)) = 6 * (c + i) + 6 by omega])
    exact ⟨al2, h2, g2 _ h3⟩
/-! marking -/
theorem ShortK.set {l : LK} {m i : Nat} {x : List KeyS} (h : ShortK l m) (hx : x.length ≤ m) : ShortK (l.set i x) m := fun y hy => by
  rcases List.mem_or_eq_of_mem_set hy with hy | rfl
  · exact h y hy
  · exact hx
theorem still_l2 {c : Nat} (hB : B.lists = (c : Int)) (hK : Kept B.all (6 * c)) : ∀ (n i : Nat) (l : LK), i + n = l.length → c + l.length ≤ room → ShortK l 1048576 → MarkedK l c i → ∃ (al' : LK), Kept al' (6 * (c + l.length)) ∧ Ev (fun f => bs_still.l2 f B (i : Int) l) (true, ⟨[], [], al', w64 (B.lists + (l.length : Int))⟩)
  | 0, i, l, h, hl, hs, hm => by
    obtain ⟨al', h1, h2⟩ := still_l4 hB hl hs (by rwa [show l.length = i by omega]) _ 0 (by rw [Nat.zero_add]) B.all hK
    refine ⟨al', h1, ?_⟩
    refine Ev.unf ?_
    simp only [bs_still.l2, bs_still.j2]
    exact Ev.neg (by omega) h2
  | n + 1, i, l, h, hl, hs, hm => by
    have h1 : l[i]? = some l[i] := List.getElem?_eq_getElem (by omega)
    -- marking one list, whatever comes behind
    have hgo : ∀ (n j : Nat) (l : LK) (x : List KeyS), ShortK l 1048576 → MarkedK l c i → l[i]? = some x → j + n = x.length → (∀ (q : Nat) y, q < j → x[q]? = some y → y = mkK ((c + i : Nat) : Int)) → ∃ l' : LK, l'.length = l.length ∧ ShortK l' 1048576 ∧ MarkedK l' c (i + 1) ∧ (c + l.length ≤ room → ∀ R, Ev (fun f => bs_still.l2 f B ((i + 1 : Nat) : Int) l') R → Ev (fun f => bs_still.l3 f B (i : Int) (j : Int) l) R) := by
      intro n
      induction n with
      | zero =>
        intro j l x hs hm hx hj hq
        have hil := (List.getElem?_eq_some_iff.1 hx).1
        refine ⟨l, rfl, hs, fun q z hq1 hz y hy => ?_, fun hroom R hR => ?_⟩
        · rcases Nat.lt_or_ge q i with hqi | hqi
          · exact hm q z hqi hz y hy
          · obtain rfl : q = i := by omega
            rw [hx, Option.some.injEq] at hz
            subst hz
            obtain ⟨p, hp, rfl⟩ := List.getElem_of_mem hy
            exact hq p _ (by omega) (List.getElem?_eq_getElem hp)
        · refine Ev.unf ?_
          simp only [bs_still.l3]
          refine Ev.bindc (idx_some hx) (Ev.neg (by omega) ?_)
          rw [w64_succ (by unfold room at hroom; omega)]
          exact hR
      | succ n ih =>
        intro j l x hs hm hx hj hq
        have hjx : x[j]? = some x[j] := List.getElem?_eq_getElem (by omega)
        have hxl := hs x (List.mem_of_getElem? hx)
        have hil := (List.getElem?_eq_some_iff.1 hx).1
        obtain ⟨l', g1, g2, g3, g4⟩ := ih (j + 1) (l.set i (x.set j (mkK ((c + i : Nat) : Int)))) (x.set j (mkK ((c + i : Nat) : Int))) (hs.set (by rw [List.length_set]; exact hxl)) (fun q z hq1 hz => by
            rw [List.getElem?_set, if_neg (by omega)] at hz
            exact hm q z hq1 hz) (by rw [List.getElem?_set, if_pos rfl, if_pos hil]) (by rw [List.length_set]; omega) (fun q y hq1 hy => by
            rw [List.getElem?_set] at hy
            by_cases e : j = q
            · subst e
              rw [if_pos rfl, if_pos (by omega), Option.some.injEq] at hy
              exact hy.symm
            · rw [if_neg e] at hy
              exact hq q y (by omega) hy)
        rw [List.length_set] at g1 g4
        refine ⟨l', g1, g2, g3, fun hroom R hR => ?_⟩
        have hw : w64 (B.lists + (i : Int)) = ((c + i : Nat) : Int) := by unfold room at hroom; rw [hB, w64_of (by omega) (by omega)]; omega
        refine Ev.unf ?_
        simp only [bs_still.l3]
        refine Ev.bindc (idx_some hx) (Ev.pos (by omega) (Ev.bindc (idx_some hx) (Ev.bind (Ev.all (mark_ok _)) (Ev.bindc (idx_some hjx) ?_))))
        rw [hw]
        refine Ev.bindc (upd_some hjx) (Ev.bindc (upd_some hx) ?_)
        rw [w64_succ (by omega)]
        exact g4 hroom R hR
    obtain ⟨l', g1, g2, g3, g4⟩ := hgo _ 0 l l[i] hs hm h1 (by rw [Nat.zero_add]) (fun q y hq => by omega)
    obtain ⟨al', k1, k2⟩ := still_l2 hB hK n (i + 1) l' (by omega) (by omega) g2 g3
    rw [g1] at k1 k2
    refine ⟨al', k1, ?_⟩
    refine Ev.unf ?_
    simp only [bs_still.l2]
    exact Ev.pos (by omega) (g4 hl _ k2)
theorem still_l1 {c : Nat} {R} (hs : ShortK F 1048576) (hF : c + F.length ≤ room) (H : Ev (fun f => bs_still.j1 f ⟨F, F, all, (c : Int)⟩) R) : ∀ (n i : Nat), i + n = F.length → Ev (fun f => bs_still.l1 f ⟨F, F, all, (c : Int)⟩ (i : Int)) R
  | 0, i, h => by
    refine Ev.unf ?_
    simp only [bs_still.l1]
    exact Ev.neg (by omega) H
  | n + 1, i, h => by
    have ih := still_l1 hs hF H n (i + 1) (by omega)
    have h1 : F[i]? = some F[i] := List.getElem?_eq_getElem (by omega)
    refine Ev.unf ?_
    simp only [bs_still.l1]
    refine Ev.pos (by omega) (Ev.bindc (idx_some h1) (Ev.bindc (idx_some h1) (Ev.bind (keys_ok (by have := hs _ (List.mem_of_getElem? h1); unfold top; omega)) (Ev.pos rfl ?_))))
    rw [w64_succ (by unfold room at hF; omega)]
    exact ih
theorem still_ok {c : Nat} (hs : ShortK F 1048576) (hF : c + F.length ≤ room) (hK : Kept all (6 * c)) : ∃ al', Kept al' (6 * (c + F.length)) ∧ Ev (fun f => bs_still f ⟨F, F, all, (c : Int)⟩) (true, ⟨[], [], al', ((c + F.length : Nat) : Int)⟩) := by
  obtain ⟨al', h1, h2⟩ := still_l2 (B := ⟨F, F, all, (c : Int)⟩) (c := c) rfl hK _ 0 F (by rw [Nat.zero_add]) hF hs (fun q x hq => by omega)
  refine ⟨al', h1, still_l1 hs hF ?_ _ 0 (by rw [Nat.zero_add])⟩
  unfold bs_still.j1
  have : w64 ((c : Int) + (F.length : Int)) = ((c + F.length : Nat) : Int) := by unfold room at hF; rw [w64_of (by omega) (by omega)]; omega
  simp only [this] at h2
  exact h2
end Go.Proofs.Ytoahkjehjmbojaa
