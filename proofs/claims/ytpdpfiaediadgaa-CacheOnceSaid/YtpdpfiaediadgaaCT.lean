/- CacheOnce answers true. -/
import Derived.Test.YtpdpfiaediadgaaCS
import Derived.Test.YtpdpfiaediadgaaOpen3
set_option linter.unusedVariables false
set_option linter.unusedSimpArgs false
namespace Go.Proofs.Ytpdpfiaediadgaa
open Go Go.Eng
theorem pick_ok {a b : Int} (ha : In64 a) (hb : 0 < b) : ∃ p, 0 ≤ p ∧ p < b ∧ ∀ k, ca_pick k a b = some p := by
  obtain ⟨h0, h1⟩ := ha
  by_cases h : a < 0
  · refine ⟨Int.tmod (-(a + 1)) b, Int.tmod_nonneg _ (by omega), Int.tmod_lt_of_pos _ hb, fun k => ?_⟩
    unfold ca_pick
    rw [if_pos h, if_neg (by omega), w64_of (n := a + 1) (by omega) (by omega), w64_of (by omega) (by omega)]
  · refine ⟨Int.tmod a b, Int.tmod_nonneg _ (by omega), Int.tmod_lt_of_pos _ hb, fun k => ?_⟩
    unfold ca_pick
    rw [if_neg h, if_neg (by omega)]
theorem pick_some (a : Int) {b : Int} (hb : b ≠ 0) : ∃ p, ∀ k, ca_pick k a b = some p := by
  by_cases h : a < 0
  · exact ⟨_, fun k => by unfold ca_pick; rw [if_pos h, if_neg hb]⟩
  · exact ⟨_, fun k => by unfold ca_pick; rw [if_neg h, if_neg hb]⟩
theorem who_some (a : Int) : ∃ p, ∀ k, ca_who k a = some p := by
  obtain ⟨p, hp⟩ := pick_some a (b := 8) (by decide)
  exact ⟨_, fun k => by unfold ca_who; rw [hp, Option.bind_some]⟩
theorem names_some (o : OpC) : ∃ t, ∀ k, ca_names k o = some t := by
  by_cases h : o.Raw = true
  · exact ⟨_, fun k => by unfold ca_names; rw [if_pos h]⟩
  · obtain ⟨p, hp⟩ := who_some o.Who
    obtain ⟨q, hq⟩ := pick_some o.Sequence (b := 100) (by decide)
    obtain ⟨r, hr⟩ := pick_some o.Water (b := 100) (by decide)
    exact ⟨_, fun k => by unfold ca_names; rw [if_neg h, hp, Option.bind_some, hq, Option.bind_some, hr, Option.bind_some]⟩
theorem config_ok {a0 a1 a2 a3 : Int} (h0 : In64 a0) (h1 : In64 a1) (h2 : In64 a2) (h3 : In64 a3) : ∃ g, GOk g ∧ ∀ k, ca_config k a0 a1 a2 a3 = some g := by
  obtain ⟨p3, l3, u3, e3⟩ := pick_ok h3 (b := 1037) (by decide)
  obtain ⟨p0, l0, u0, e0⟩ := pick_ok h0 (b := 64) (by decide)
  obtain ⟨p1, l1, u1, e1⟩ := pick_ok h1 (b := 64) (by decide)
  have w1 : w64 (64 + p3) = 64 + p3 := w64_of (by omega) (by omega)
  have w2 : w64 (1048576 - (64 + p3)) = 1048576 - (64 + p3) := w64_of (by omega) (by omega)
  have w3 : w64 (1048576 - (64 + p3) + 1) = 1048576 - (64 + p3) + 1 := w64_of (by omega) (by omega)
  obtain ⟨p2, l2, u2, e2⟩ := pick_ok h2 (b := 1048576 - (64 + p3) + 1) (by omega)
  have w4 : w64 (1 + p0) = 1 + p0 := w64_of (by omega) (by omega)
  have w5 : w64 (1 + p1) = 1 + p1 := w64_of (by omega) (by omega)
  have w6 : w64 (64 + p3 + p2) = 64 + p3 + p2 := w64_of (by omega) (by omega)
  refine ⟨⟨1 + p0, 1 + p1, 64 + p3 + p2, 64 + p3⟩, ⟨?_, ?_, ?_, ?_, ?_, ?_, ?_, ?_⟩, fun k => ?_⟩
  · simp only; omega
  · simp only; omega
  · simp only; omega
  · simp only; omega
  · simp only; omega
  · simp only; omega
  · simp only; omega
  · simp only; omega
  · unfold ca_config
    simp only [e3, e0, e1, Option.bind_some, w1, w2, w3, e2, w4, w5, w6]
variable {g : CacheConfig}
theorem new_ok (hG : GOk g) (k : Nat) : ca_New k g = some (some (mk g []), 0) := by
  obtain ⟨c1, c2, e1, e2, r1, r2, b1, b2⟩ := hG
  unfold ca_New ca_New.j1
  rw [if_neg (by omega), if_neg (by omega), if_neg (by omega), if_neg (by simp; omega), if_neg (by omega), if_neg (by omega), if_neg (by omega), if_neg (by omega)]
  rfl
theorem known_ok (k : Nat) : ca_known k = some true := by kernel_rfl
theorem XInv.emp (hG : GOk g) : XInv g [] := ⟨by simp, by simp, by have := hG.c1; simp; omega, by have := hG.r1; have := hG.b1; show (0 : Int) ≤ g.Bytes; omega⟩
theorem once_l1 (hG : GOk g) {a1 : List OpC} (ha : a1.length < big) : ∀ (b a : List OpC), a1 = a ++ b → ∀ (l : List Seen) (c0 : Int) (X : Clis), XInv g X → Book l X → l.length ≤ a.length → c0 ≤ (X.length : Int) → Goes a1 g (a.length : Int) l c0 X
  | [], a, e, l, c0, X, hX, hB, hl, hc => by
    refine Ev.unf ?_
    simp only [law_Once.l1]
    have hla : a1.length = a.length := by rw [e]; simp
    exact Ev.neg (by omega) Ev.ret
  | o :: b, a, e, l, c0, X, hX, hB, hl, hc => by
    refine Ev.unf ?_
    simp only [law_Once.l1]
    have hla : a1.length = a.length + (b.length + 1) := by rw [e]; simp
    refine Ev.pos (by omega) ?_
    have hidx : idx a1 (a.length : Int) = some o := by
      rw [idx_at rfl (by omega)]
      simp [e]
    refine Ev.bindc hidx ?_
    obtain ⟨t, ht⟩ := names_some o
    refine Ev.bind (r := t) (Ev.all ht) ?_
    have hlb : l.length < big := by omega
    have H : ∀ l' X' c', XInv g X' → Book l' X' → l'.length ≤ l.length + 1 → c' ≤ (X'.length : Int) → Goes a1 g (w64 ((a.length : Int) + 1)) l' c' X' := fun l' X' c' h1 h2 h3 h4 => by
      rw [w64_succ (by unfold big at ha; omega)]
      have := once_l1 hG ha b (a ++ [o]) (by rw [e]; simp) l' c' X' h1 h2 (by rw [List.length_append, List.length_singleton]; omega) h4
      rwa [List.length_append, List.length_singleton] at this
    refine once_l2 (l := l) (by omega) (fun at_ hat => ?_) l [] rfl (-1) (.inl ⟨rfl, by simp⟩)
    refine Ev.unf ?_
    simp only [law_Once.j1]
    by_cases h4 : o.What = 4
    · refine Ev.pos h4 ?_
      exact once_done hG hX hB hlb hat hc H
    · refine Ev.neg h4 ?_
      by_cases h5 : o.What = 5
      · rw [show decide (o.What = 5) = true from decide_eq_true h5]
        exact once_done hG hX hB hlb hat hc H
      · rw [show decide (o.What = 5) = false from decide_eq_false h5]
        exact once_ask hG hX hB hlb hat hc H
theorem once_true (a0 : S23) (a1 : List OpC) (h0 : In64 a0.e0) (h1 : In64 a0.e1) (h2 : In64 a0.e2) (h3 : In64 a0.e3) (ha : a1.length < big) : ∃ k, law_Once k a0 a1 = some true := by
  obtain ⟨g, hG, hg⟩ := config_ok h0 h1 h2 h3
  refine Ev.get (f := fun k => law_Once k a0 a1) ?_
  unfold law_Once
  refine Ev.bind (r := true) (Ev.all known_ok) ?_
  refine Ev.bind (r := g) (Ev.all hg) ?_
  refine Ev.bind (r := (some (mk g []), 0)) (Ev.all fun k => new_ok hG k) ?_
  refine Ev.pos rfl ?_
  refine Ev.pos rfl ?_
  refine Ev.bindc (r := mk g []) rfl ?_
  refine Ev.pos rfl ?_
  exact once_l1 hG ha a1 [] rfl [] 0 [] (XInv.emp hG) Book.emp (by simp) (by simp)
end Go.Proofs.Ytpdpfiaediadgaa
