/- ShelfPlays: the steps and the law. -/
import Derived.Test.YtoahkjehjmbojaaQB
import Derived.Test.YtoahkjehjmbojaaPI
set_option linter.unusedVariables false
set_option linter.unusedSimpArgs false
namespace Go.Proofs.Ytoahkjehjmbojaa
open Go Go.Eng
variable {m : Int} {L : List KV} {F : LK} {all : LK}
theorem ShortK.add {l : LK} {n : Nat} {x : List KeyS} (h : ShortK l n) (hx : x.length ≤ n) : ShortK (l ++ [x]) n := fun y hy => by
  rcases List.mem_append.1 hy with hy | hy
  · exact h y hy
  · rw [List.mem_singleton] at hy; subst hy; exact hx
theorem step_l1 {A W : List Asked} {c : Int} (hF : Fits m L) {a2 : BookS} : ∀ (n j : Nat) (F : LK), j + n = 2 → F.length + n ≤ room → ShortK F 1048576 → ∃ F' : LK, F'.length = F.length + n ∧ ShortK F' 1048576 ∧ Ev (fun f => sd_step.l1 f (shK m L) (shR m L) A W a2 (j : Int) F F) (true, ⟨F', F', a2.all, a2.lists⟩, shK m L, shR m L, A, W)
  | 0, j, F, h, hl, hs => by
    refine ⟨F, rfl, hs, ?_⟩
    refine Ev.unf ?_
    simp only [sd_step.l1]
    exact Ev.neg (by omega) Ev.ret
  | n + 1, j, F, h, hl, hs => by
    have ht := hF.top
    unfold top at ht
    obtain ⟨F', h1, h2, h3⟩ := step_l1 (A := A) (W := W) (c := c) hF (a2 := a2) n (j + 1) (F ++ [L.map (·.1)]) (by omega) (by simp; omega) (hs.add (by simpa using ht))
    refine ⟨F', by rw [h1]; simp; omega, h2, ?_⟩
    unfold room at hl
    refine Ev.unf ?_
    simp only [sd_step.l1]
    refine Ev.pos (by omega) (Ev.bind (sk_keys_ok hF.top) (Ev.bind (rk_keys_ok hF.top) (Ev.bind (keys_ok (by rw [List.length_map]; unfold top; omega)) (Ev.pos rfl (Ev.bindc (cat_at (by simp; omega)) (Ev.bindc (cat_at (by simp; omega)) ?_))))))
    rw [w64_succ (by omega)]
    exact h3
theorem stepS_ok {A W : List Asked} {c : Int} {o : OpS} (hF : Fits m L) (hl : F.length + 2 ≤ room) (hs : ShortK F 1048576) : ∃ L' A' W' F', Fits m L' ∧ F'.length ≤ F.length + 2 ∧ ShortK F' 1048576 ∧ Ev (fun f => sd_step f (shK m L) (shR m L) A W o ⟨F, F, all, c⟩) (true, ⟨F', F', all, c⟩, shK m L', shR m L', A', W') := by
  unfold sd_step
  have hone : ∀ {v : Int}, decide (v = v) = true := fun {v} => decide_eq_true rfl
  by_cases h1 : o.Kind = 1
  · obtain ⟨e, L', k1, k2, k3⟩ := put_rel (k := o.K) (v := o.V) hF
    exact ⟨L', A, W, F, k1, by omega, hs, Ev.pos h1 (Ev.bind k2 (Ev.bind k3 (Ev.cast Ev.ret (by simp))))⟩
  by_cases h2 : o.Kind = 2
  · obtain ⟨g, k2, k3⟩ := get_rel (k := o.K) hF
    exact ⟨L, A, W, F, hF, by omega, hs, Ev.neg h1 (Ev.pos h2 (Ev.bind k2 (Ev.bind k3 (Ev.pos rfl (Ev.cast Ev.ret (by simp))))))⟩
  by_cases h3 : o.Kind = 3
  · obtain ⟨e, L', k1, k2, k3⟩ := drop_rel (k := o.K) hF
    exact ⟨L', A, W, F, k1, by omega, hs, Ev.neg h1 (Ev.neg h2 (Ev.pos h3 (Ev.bind k2 (Ev.bind k3 (Ev.cast Ev.ret (by simp))))))⟩
  by_cases h4 : o.Kind = 4
  · obtain ⟨F', k1, k2, k3⟩ := step_l1 (A := A) (W := W) (c := c) hF (a2 := ⟨F, F, all, c⟩) 2 0 F rfl hl hs
    exact ⟨L, A, W, F', hF, by omega, k2, Ev.neg h1 (Ev.neg h2 (Ev.neg h3 (Ev.pos h4 k3)))⟩
  by_cases h5 : o.Kind = 5
  · obtain ⟨L', A', k1, k2⟩ := prunes_ok hF o A W
    exact ⟨L', A', A', F, k1, by omega, hs, Ev.neg h1 (Ev.neg h2 (Ev.neg h3 (Ev.neg h4 (Ev.pos h5 (Ev.bind k2 Ev.ret)))))⟩
  · exact ⟨L, A, W, F, hF, by omega, hs, Ev.neg h1 (Ev.neg h2 (Ev.neg h3 (Ev.neg h4 (Ev.neg h5 Ev.ret))))⟩
/-- A side: no shelves, or two alike. -/
def SideOk (d : Side) : Prop := (d.r = none) ∨ ∃ m L, Fits m L ∧ d.s = some (shK m L) ∧ d.r = some (shR m L)
theorem alike_l1 {d : Side} (hF : Fits m L) {ks : List KeyS} (hk : ks.length ≤ top) : ∀ (n j : Nat), j + n = ks.length → Ev (fun f => sd_alike.l1 f d (shR m L) (shK m L) ks (j : Int)) (true, ⟨some (shK m L), some (shR m L), d.asked, d.was⟩)
  | 0, j, h => by
    refine Ev.unf ?_
    simp only [sd_alike.l1]
    exact Ev.neg (by omega) Ev.ret
  | n + 1, j, h => by
    have ih := alike_l1 (d := d) hF hk n (j + 1) (by omega)
    have hj : ks[j]? = some ks[j] := List.getElem?_eq_getElem (by omega)
    obtain ⟨g, k2, k3⟩ := get_rel (k := ks[j]) hF
    unfold top at hk
    refine Ev.unf ?_
    simp only [sd_alike.l1]
    refine Ev.pos (by omega) (Ev.bindc (idx_some hj) (Ev.bind k2 (Ev.bindc (idx_some hj) (Ev.bind k3 (Ev.pos rfl (Ev.pos (by simp) ?_))))))
    rw [w64_succ (by omega)]
    exact ih
theorem alike_ok {d : Side} (h : SideOk d) : ∃ d', SideOk d' ∧ Ev (fun f => sd_alike f d) (true, d') := by
  obtain ⟨s, r, a, w⟩ := d
  unfold sd_alike
  rcases h with h | ⟨m, L, hF, h1, h2⟩
  · refine ⟨⟨s, none, a, w⟩, .inl rfl, ?_⟩
    simp only at h
    subst h
    exact Ev.neg (by simp) Ev.ret
  · simp only at h1 h2
    subst h1 h2
    refine ⟨⟨some (shK m L), some (shR m L), a, w⟩, .inr ⟨m, L, hF, rfl, rfl⟩, Ev.pos rfl (Ev.bindc rfl (Ev.pos rfl (Ev.bindc rfl (Ev.bind (sk_keys_ok hF.top) (Ev.bind (rk_keys_ok hF.top) (Ev.bind (keys_ok (by have := hF.top; rw [List.length_map]; omega)) (Ev.pos rfl (Ev.bindc rfl (Ev.bindc rfl ?_)))))))))⟩
    unfold sd_alike.j1
    refine Ev.neg (by simp) ?_
    exact alike_l1 (d := ⟨some (shK m L), some (shR m L), a, w⟩) hF (by rw [List.length_map]; exact hF.top) _ 0 (by rw [Nat.zero_add])
theorem pickS_some {a : Int} (ha : In64 a) : ∃ p, 0 ≤ p ∧ p < 4 ∧ ∀ k, sh_pick k a 4 = some p := by
  obtain ⟨h0, h1⟩ := ha
  by_cases h : a < 0
  · refine ⟨Int.tmod (-(a + 1)) 4, Int.tmod_nonneg _ (by omega), Int.tmod_lt_of_pos _ (by decide), fun k => ?_⟩
    unfold sh_pick
    rw [if_pos h, if_neg (by decide), w64_of (n := a + 1) (by omega) (by omega), w64_of (by omega) (by omega)]
  · refine ⟨Int.tmod a 4, Int.tmod_nonneg _ (by omega), Int.tmod_lt_of_pos _ (by decide), fun k => ?_⟩
    unfold sh_pick
    rw [if_neg h, if_neg (by decide)]
theorem third_of {p : Int} (h0 : 0 ≤ p) (h1 : p < 4) : ∃ j : Nat, j < 2 ∧ w64 (Int.tdiv p 3) = (j : Int) := by
  have : p = 0 ∨ p = 1 ∨ p = 2 ∨ p = 3 := by omega
  rcases this with rfl | rfl | rfl | rfl
  · exact ⟨0, by decide, by decide⟩
  · exact ⟨0, by decide, by decide⟩
  · exact ⟨0, by decide, by decide⟩
  · exact ⟨1, by decide, by decide⟩
/-- Two sides, each so. -/
def Sides (l : List Side) : Prop := l.length = 2 ∧ ∀ d ∈ l, SideOk d
theorem Sides.set {l : List Side} {j : Nat} {d : Side} (h : Sides l) (hd : SideOk d) : Sides (l.set j d) := ⟨by rw [List.length_set]; exact h.1, fun x hx => by
  rcases List.mem_or_eq_of_mem_set hx with hx | rfl
  · exact h.2 x hx
  · exact hd⟩
theorem Sides.at {l : List Side} (h : Sides l) {j : Nat} (hj : j < 2) : ∃ d, l[j]? = some d ∧ SideOk d := by
  have : j < l.length := by rw [h.1]; exact hj
  exact ⟨l[j], List.getElem?_eq_getElem this, h.2 _ (List.getElem_mem this)⟩
theorem law_j2 {l : List Side} {c : Nat} (h : Sides l) (hs : ShortK F 1048576) (hF : c + F.length ≤ room) (hK : Kept all (6 * c)) : Ev (fun f => law_SPlays.j2 f true l F F all (c : Int)) true := by
  obtain ⟨d0, h0, k0⟩ := h.at (j := 0) (by decide)
  obtain ⟨e0, i0, n0⟩ := alike_ok k0
  obtain ⟨d1, h1, k1⟩ := (h.set (j := 0) i0).at (j := 1) (by decide)
  obtain ⟨e1, i1, n1⟩ := alike_ok k1
  obtain ⟨al', g1, g2⟩ := still_ok hs hF hK
  unfold law_SPlays.j2
  exact Ev.bindc (idx_some h0) (Ev.bind n0 (Ev.bindc (idx_some h1) (Ev.bind n1 (Ev.pos rfl (Ev.pos rfl (Ev.pos rfl (Ev.bind g2 Ev.ret)))))))
def OpSOk (o : OpS) : Prop := In64 o.On
theorem law_l2 {a2 : List OpS} (hlen : a2.length ≤ 2147483647) (hok : ∀ o ∈ a2, OpSOk o) : ∀ (n i : Nat), i + n = a2.length → ∀ (l : List Side) (F all : LK) (c : Nat), Sides l → ShortK F 1048576 → c + F.length ≤ 2 * i → Kept all (6 * c) → Ev (fun f => law_SPlays.l2 f a2 true l (i : Int) F F all (c : Int)) true
  | 0, i, h, l, F, all, c, hl, hs, hc, hK => by
    refine Ev.unf ?_
    simp only [law_SPlays.l2]
    exact Ev.neg (by omega) (law_j2 hl hs (by unfold room; omega) hK)
  | n + 1, i, h, l, F, all, c, hl, hs, hc, hK => by
    have hi : a2[i]? = some a2[i] := List.getElem?_eq_getElem (by omega)
    obtain ⟨p, p0, p1, hp⟩ := pickS_some (hok _ (List.mem_of_getElem? hi))
    obtain ⟨j, hj, hw⟩ := third_of p0 p1
    obtain ⟨d, hd, kd⟩ := hl.at hj
    have ih := law_l2 hlen hok n (i + 1) (by omega)
    have hw1 : w64 ((i : Int) + 1) = ((i + 1 : Nat) : Int) := w64_succ (by omega)
    refine Ev.unf ?_
    simp only [law_SPlays.l2]
    refine Ev.pos (by omega) (Ev.bindc (idx_some hi) (Ev.bind (Ev.all hp) ?_))
    rw [hw, hw1]
    refine Ev.bindc (idx_some hd) ?_
    rcases kd with hr | ⟨m, L, hF, h1, h2⟩
    · refine Ev.neg (by simp [hr]) ?_
      exact ih _ F all c (hl.set (.inl rfl)) hs (by omega) hK
    · rw [h1, h2]
      obtain ⟨L', A', W', F', g1, g2, g3, g4⟩ := stepS_ok (A := d.asked) (W := d.was) (c := (c : Int)) (all := all) (o := a2[i]) hF (by unfold room; omega : F.length + 2 ≤ room) hs
      refine Ev.pos rfl (Ev.bindc rfl (Ev.bindc (idx_some hi) (Ev.pos rfl (Ev.bindc rfl (Ev.bind g4 (Ev.pos rfl ?_))))))
      by_cases ht : Int.tmod (i : Int) 4 = 3
      · obtain ⟨al', s1, s2⟩ := still_ok (F := F') (all := all) (c := c) g3 (by unfold room; omega) hK
        refine Ev.pos ht (Ev.bind s2 (Ev.pos rfl ?_))
        exact ih _ [] al' (c + F'.length) (hl.set (.inr ⟨m, L', g1, rfl, rfl⟩)) (fun x hx => absurd hx (by simp)) (by simp; omega) s1
      · refine Ev.neg ht ?_
        exact ih _ F' all c (hl.set (.inr ⟨m, L', g1, rfl, rfl⟩)) g3 (by omega) hK
theorem new_ok (a : Int) : ∃ (d : Side) (e : Int), SideOk d ∧ d.asked = [] ∧ d.was = [] ∧ ((d.s = none ∧ d.r = none) ∨ ∃ s r, d.s = some s ∧ d.r = some r) ∧ (∀ f, sk_New f a = some (d.s, e)) ∧ ∀ f, rk_New f a = some (d.r, e) := by
  unfold sk_New rk_New
  by_cases h : a < 0
  · exact ⟨⟨none, none, [], []⟩, 1, .inl rfl, rfl, rfl, .inl ⟨rfl, rfl⟩, fun f => by rw [if_pos h], fun f => by rw [if_pos h]⟩
  by_cases h2 : 1048576 < a
  · exact ⟨⟨none, none, [], []⟩, 1, .inl rfl, rfl, rfl, .inl ⟨rfl, rfl⟩, fun f => by rw [if_neg h, if_pos h2], fun f => by rw [if_neg h, if_pos h2]⟩
  · refine ⟨⟨some (shK a []), some (shR a []), [], []⟩, 0, .inr ⟨a, [], ⟨by simp; omega, by omega⟩, rfl, rfl⟩, rfl, rfl, .inr ⟨_, _, rfl, rfl⟩, fun f => by rw [if_neg h, if_neg h2]; rfl, fun f => by rw [if_neg h, if_neg h2]; rfl⟩
theorem law_l1 {a0 a1 : Int} {a2 : List OpS} (H : ∀ l, Sides l → Ev (fun f => law_SPlays.j1 f a2 true l) true) : ∀ (n j : Nat) (l : List Side), j + n = 2 → l.length = j → (∀ d ∈ l, SideOk d) → Ev (fun f => law_SPlays.l1 f a0 a1 a2 true l (j : Int)) true
  | 0, j, l, h, hl, hd => by
    refine Ev.unf ?_
    simp only [law_SPlays.l1]
    exact Ev.neg (by omega) (H l ⟨by omega, hd⟩)
  | n + 1, j, l, h, hl, hd => by
    have hj : ([a0, a1] : List Int)[j]? = some (([a0, a1] : List Int)[j]'(by simp; omega)) := List.getElem?_eq_getElem (by simp; omega)
    obtain ⟨d, e, h1, h2, h3, h4, h5, h6⟩ := new_ok (([a0, a1] : List Int)[j]'(by simp; omega))
    have ih := law_l1 (a0 := a0) (a1 := a1) H n (j + 1) (l ++ [d]) (by omega) (by simp [hl]) (fun x hx => by
      rcases List.mem_append.1 hx with hx | hx
      · exact hd x hx
      · rw [List.mem_singleton] at hx; subst hx; exact h1)
    refine Ev.unf ?_
    simp only [law_SPlays.l1]
    refine Ev.pos (by omega) (Ev.bindc (idx_some hj) (Ev.bind (Ev.all h5) (Ev.bindc (idx_some hj) (Ev.bind (Ev.all h6) (Ev.pos rfl ?_)))))
    obtain ⟨s, r, a, w⟩ := d
    simp only at h2 h3 h4 ⊢
    subst h2 h3
    rcases h4 with ⟨rfl, rfl⟩ | ⟨s, r, rfl, rfl⟩
    · refine Ev.neg (by simp) (Ev.neg (by simp) (Ev.bindc (cat_at (by simp; omega)) ?_))
      rw [w64_succ (by omega)]
      exact ih
    · refine Ev.pos rfl (Ev.bindc rfl (Ev.pos rfl (Ev.bindc rfl (Ev.bindc (cat_at (by simp; omega)) ?_))))
      rw [w64_succ (by omega)]
      exact ih
theorem add_any (a b : Int) : ∃ r, ∀ f, sh_add f a b = some r := by
  by_cases h : 2147483647 < a
  · exact ⟨_, fun f => by unfold sh_add; rw [if_pos h]⟩
  by_cases h2 : 2147483647 < b
  · exact ⟨_, fun f => by unfold sh_add; rw [if_neg h, if_pos h2]⟩
  · exact ⟨_, fun f => by unfold sh_add; rw [if_neg h, if_neg h2]⟩
theorem weighs_l1 {a2 : List OpS} (hlen : a2.length ≤ 2147483647) : ∀ (n i : Nat) (x : Int), i + n = a2.length → ∃ r, Ev (fun f => sh_weighs.l1 f a2 x (i : Int)) r
  | 0, i, x, h => by
    refine ⟨x, Ev.unf ?_⟩
    simp only [sh_weighs.l1]
    refine Ev.neg (by omega) (Ev.unf ?_)
    simp only [sh_weighs.j1]
    exact Ev.neg (by decide) Ev.ret
  | n + 1, i, x, h => by
    have hi : a2[i]? = some a2[i] := List.getElem?_eq_getElem (by omega)
    obtain ⟨y, hy⟩ := add_any x (a2[i].K.S.length : Int)
    obtain ⟨r, hr⟩ := weighs_l1 hlen n (i + 1) y (by omega)
    by_cases hx : x ≤ 2147483647
    · refine ⟨r, Ev.unf ?_⟩
      simp only [sh_weighs.l1]
      refine Ev.pos (by omega) (Ev.unf ?_)
      simp only [sh_weighs.j1]
      refine Ev.pos (by simpa using hx) (Ev.bindc (idx_some hi) (Ev.bind (Ev.all hy) ?_))
      rw [w64_succ (by omega)]
      exact hr
    · refine ⟨x, Ev.unf ?_⟩
      simp only [sh_weighs.l1]
      refine Ev.pos (by omega) (Ev.unf ?_)
      simp only [sh_weighs.j1]
      exact Ev.neg (by simpa using hx) Ev.ret
theorem weighs_big {a2 : List OpS} (hlen : ¬ a2.length ≤ 2147483647) : Ev (fun f => sh_weighs f a2) 2147483648 := by
  unfold sh_weighs
  refine Ev.bind (r := 2147483648) (Ev.all fun f => by unfold sh_add; rw [if_neg (by decide), if_pos (by omega)]) (Ev.unf ?_)
  simp only [sh_weighs.l1]
  refine Ev.pos (by omega) (Ev.unf ?_)
  simp only [sh_weighs.j1]
  exact Ev.neg (by decide) Ev.ret
theorem plays_all {a0 a1 : Int} {a2 : List OpS} (hok : ∀ o ∈ a2, OpSOk o) (haw : Ev sh_awake true) : Ev (fun f => law_SPlays f a0 a1 a2) true := by
  unfold law_SPlays
  by_cases hlen : a2.length ≤ 2147483647
  · obtain ⟨y, hy⟩ := add_any 0 (a2.length : Int)
    obtain ⟨r, hr⟩ := weighs_l1 hlen a2.length 0 y (by rw [Nat.zero_add])
    refine Ev.bind (r := r) (Ev.bind (Ev.all hy) hr) ?_
    by_cases h : 2147483647 < r
    · exact Ev.pos h Ev.ret
    · refine Ev.neg h (Ev.bind haw ?_)
      refine law_l1 (fun l hl => ?_) 2 0 [] rfl rfl (fun d hd => absurd hd (by simp))
      unfold law_SPlays.j1
      exact law_l2 hlen hok _ 0 (by rw [Nat.zero_add]) l [] [] 0 hl (fun x hx => absurd hx (by simp)) (by simp) ⟨rfl, fun x hx => absurd hx (by simp), fun q x h => by simp at h⟩
  · exact Ev.bind (weighs_big hlen) (Ev.pos (by decide) Ev.ret)
theorem awakeS_k (k : Nat) : sh_awake (k + 50) = some true := by kernel_rfl
theorem awakeS_ev : Ev sh_awake true := ⟨50, fun k hk => by
  obtain ⟨m, rfl⟩ : ∃ m, k = m + 50 := ⟨k - 50, by omega⟩
  exact awakeS_k m⟩
end Go.Proofs.Ytoahkjehjmbojaa
