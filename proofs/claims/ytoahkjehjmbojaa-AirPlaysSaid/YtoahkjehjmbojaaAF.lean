/- AirPlays answers true. -/
import Derived.Test.YtoahkjehjmbojaaAE
set_option linter.unusedVariables false
set_option linter.unusedSimpArgs false
namespace Go.Proofs.Ytoahkjehjmbojaa
open Go Go.Eng
variable {L : List Packet} {t n : Int} {p : Packet}
theorem send_eq (hL : L.length ≤ 1000) (k : Nat) : ∃ v L', L'.length ≤ 1000 ∧ ya_Send k ⟨L, t⟩ p = some (v, ⟨L', t⟩) ∧ yr_Send k ⟨L, t⟩ p = some (v, ⟨L', t⟩) ∧ ∀ k', ya_Send k' ⟨L, t⟩ p = some (v, ⟨L', t⟩) ∧ yr_Send k' ⟨L, t⟩ p = some (v, ⟨L', t⟩) := by
  suffices h : ∃ v L', L'.length ≤ 1000 ∧ ∀ k', ya_Send k' ⟨L, t⟩ p = some (v, ⟨L', t⟩) ∧ yr_Send k' ⟨L, t⟩ p = some (v, ⟨L', t⟩) by
    obtain ⟨v, L', h1, h2⟩ := h
    exact ⟨v, L', h1, (h2 k).1, (h2 k).2, h2⟩
  unfold ya_Send yr_Send ya_put
  by_cases h1 : 1500 < (p.Data.length : Int)
  · exact ⟨_, L, hL, fun k' => ⟨by rw [if_pos h1], by rw [if_pos h1]⟩⟩
  · by_cases h2 : 1000 ≤ (L.length : Int)
    · exact ⟨_, L, hL, fun k' => ⟨by rw [if_neg h1]; simp only [if_pos h2]; rfl, by rw [if_neg h1]; simp only [if_pos h2]⟩⟩
    · have hc : cat L [p] = some (L ++ [p]) := cat_at (by simp; omega)
      exact ⟨_, L ++ [p], by simp; omega, fun k' => ⟨by rw [if_neg h1]; simp only [if_neg h2, hc]; rfl, by rw [if_neg h1]; simp only [if_neg h2, hc]; rfl⟩⟩
theorem deliver_eq (hL : L.length ≤ 1000) : ∃ q v L', L'.length ≤ 1000 ∧ ∀ k', ya_Deliver k' ⟨L, t⟩ n = some (q, v, ⟨L', t⟩) ∧ yr_Deliver k' ⟨L, t⟩ n = some (q, v, ⟨L', t⟩) := by
  unfold ya_Deliver yr_Deliver ya_has yr_Deliver.j1
  by_cases h1 : n < 0
  · exact ⟨_, _, L, hL, fun k' => ⟨by rw [if_neg (by omega)]; rfl, by rw [if_pos h1]; rfl⟩⟩
  · obtain ⟨m, rfl⟩ : ∃ m : Nat, n = (m : Int) := ⟨n.toNat, by omega⟩
    by_cases h2 : (m : Int) < (L.length : Int)
    · have hm : m < L.length := by omega
      have e1 : idx L (m : Int) = some L[m] := idx_at rfl hm
      have e2 : cut L 0 (m : Int) = some (L.take m) := cut_to rfl (by omega)
      have e3 : cut L (w64 ((m : Int) + 1)) (L.length : Int) = some (L.drop (m + 1)) := by rw [w64_succ (by omega)]; exact cut_from rfl (by omega)
      have e4 : cat (L.take m) (L.drop (m + 1)) = some (L.take m ++ L.drop (m + 1)) := cat_at (by simp; omega)
      have e5 : cat ([] : List Packet) (L.take m) = some (L.take m) := cat_at (L := []) (by simp; omega)
      refine ⟨L[m], 0, L.take m ++ L.drop (m + 1), by simp; omega, fun k' => ⟨?_, ?_⟩⟩
      · simp only [if_pos (show (0 : Int) ≤ (m : Int) by omega), decide_eq_true h2, Option.bind_some, if_true, e1, e2, e3, e4]
      · simp only [if_neg h1, decide_eq_false (show ¬ (L.length : Int) ≤ (m : Int) by omega), Bool.false_eq_true, if_false, Option.bind_some, e1, e2, e3, e4, e5]
    · refine ⟨⟨0, 0, []⟩, 130, L, hL, fun k' => ⟨?_, ?_⟩⟩
      · simp only [if_pos (show (0 : Int) ≤ (m : Int) by omega), decide_eq_false h2, Option.bind_some, Bool.false_eq_true, if_false]
      · simp only [if_neg h1, decide_eq_true (show (L.length : Int) ≤ (m : Int) by omega), if_true]
theorem drop_eq (hL : L.length ≤ 1000) : ∃ v L', L'.length ≤ 1000 ∧ ∀ k', ya_Drop k' ⟨L, t⟩ n = some (v, ⟨L', t⟩) ∧ yr_Drop k' ⟨L, t⟩ n = some (v, ⟨L', t⟩) := by
  obtain ⟨q, v, L', h1, h2⟩ := deliver_eq (t := t) (n := n) hL
  exact ⟨v, L', h1, fun k' => ⟨by unfold ya_Drop; rw [(h2 k').1]; rfl, by unfold yr_Drop; rw [(h2 k').2]; rfl⟩⟩
theorem double_eq (hL : L.length ≤ 1000) : ∃ v L', L'.length ≤ 1000 ∧ ∀ k', ya_Double k' ⟨L, t⟩ n = some (v, ⟨L', t⟩) ∧ yr_Double k' ⟨L, t⟩ n = some (v, ⟨L', t⟩) := by
  unfold ya_Double yr_Double ya_has yr_Double.j1 ya_put
  by_cases h1 : n < 0
  · exact ⟨_, L, hL, fun k' => ⟨by rw [if_neg (by omega)]; rfl, by rw [if_pos h1]; rfl⟩⟩
  · obtain ⟨m, rfl⟩ : ∃ m : Nat, n = (m : Int) := ⟨n.toNat, by omega⟩
    by_cases h2 : (m : Int) < (L.length : Int)
    · have hm : m < L.length := by omega
      have e1 : idx L (m : Int) = some L[m] := idx_at rfl hm
      by_cases h3 : 1000 ≤ (L.length : Int)
      · refine ⟨132, L, hL, fun k' => ⟨?_, ?_⟩⟩
        · simp only [if_pos (show (0 : Int) ≤ (m : Int) by omega), decide_eq_true h2, Option.bind_some, if_true, e1, if_pos h3]
        · simp only [if_neg h1, decide_eq_false (show ¬ (L.length : Int) ≤ (m : Int) by omega), Bool.false_eq_true, if_false, if_pos h3]
      · have hc : cat L [L[m]] = some (L ++ [L[m]]) := cat_at (by simp; omega)
        refine ⟨0, L ++ [L[m]], by simp; omega, fun k' => ⟨?_, ?_⟩⟩
        · simp only [if_pos (show (0 : Int) ≤ (m : Int) by omega), decide_eq_true h2, Option.bind_some, if_true, e1, if_neg h3, hc]
        · simp only [if_neg h1, decide_eq_false (show ¬ (L.length : Int) ≤ (m : Int) by omega), Bool.false_eq_true, if_false, if_neg h3, e1, Option.bind_some, hc]
    · refine ⟨130, L, hL, fun k' => ⟨?_, ?_⟩⟩
      · simp only [if_pos (show (0 : Int) ≤ (m : Int) by omega), decide_eq_false h2, Option.bind_some, Bool.false_eq_true, if_false]
      · simp only [if_neg h1, decide_eq_true (show (L.length : Int) ≤ (m : Int) by omega), if_true]
theorem flying_eq (hL : L.length ≤ 1000) (k : Nat) : ya_Flying k ⟨L, t⟩ = some L ∧ yr_Flying k ⟨L, t⟩ = some L := by
  have e5 : cat ([] : List Packet) L = some L := cat_at (L := []) (by simp; omega)
  have e6 : cut L 0 (L.length : Int) = some L := by rw [cut_to rfl (Nat.le_refl _), List.take_length]
  unfold ya_Flying yr_Flying ya_Clone ya_Clip
  simp only [e5, e6, Option.bind_some, and_self]
theorem pick_some {a : Int} {b : Int} (hb : 0 < b) (ha : In64 a) : ∃ p, 0 ≤ p ∧ p < b ∧ ∀ k, ypick k a b = some p := by
  obtain ⟨h0, h1⟩ := ha
  by_cases h : a < 0
  · refine ⟨Int.tmod (-(a + 1)) b, Int.tmod_nonneg _ (by omega), Int.tmod_lt_of_pos _ hb, fun k => ?_⟩
    unfold ypick
    rw [if_pos h, if_neg (by omega), w64_of (n := a + 1) (by omega) (by omega), w64_of (by omega) (by omega)]
  · refine ⟨Int.tmod a b, Int.tmod_nonneg _ (by omega), Int.tmod_lt_of_pos _ hb, fun k => ?_⟩
    unfold ypick
    rw [if_neg h, if_neg (by omega)]
def OpOk (o : Op) : Prop := In64 o.On ∧ In64 o.N ∧ In64 o.Many ∧ o.P.Data.length ≤ 140737488351232
abbrev bookOf (F : LL) : BookA := ⟨F, F, [], [], []⟩
theorem step_ok {F : LL} {o : Op} (hL : L.length ≤ 1000) (hF : F.length + 2 ≤ room) (hs : Short F 1000) (hN : In64 o.N) : ∃ F' L' t', L'.length ≤ 1000 ∧ F'.length ≤ F.length + 2 ∧ Short F' 1000 ∧ Ev (fun k => y_step k (bookOf F) ⟨L, t⟩ ⟨L, t⟩ o) (true, bookOf F', ⟨L', t'⟩, ⟨L', t'⟩) := by
  unfold y_step
  have hone : ∀ {v : Int}, decide (v = v) = true := fun {v} => decide_eq_true rfl
  by_cases h1 : o.Kind = 1
  · obtain ⟨v, L', k1, _, _, k2⟩ := send_eq (t := t) (p := o.P) hL 0
    refine ⟨F, L', t, k1, by omega, hs, Ev.pos h1 (Ev.bind (Ev.all fun k => (k2 k).1) (Ev.bind (Ev.all fun k => (k2 k).2) ?_))⟩
    exact Ev.cast Ev.ret (by simp)
  by_cases h2 : o.Kind = 2
  · obtain ⟨q, v, L', k1, k2⟩ := deliver_eq (t := t) (n := o.N) hL
    refine ⟨F, L', t, k1, by omega, hs, Ev.neg h1 (Ev.pos h2 (Ev.bind (Ev.all fun k => (k2 k).1) (Ev.bind (Ev.all fun k => (k2 k).2) (Ev.pos rfl ?_))))⟩
    unfold y_step.j1
    exact Ev.cast Ev.ret (by simp)
  by_cases h3 : o.Kind = 3
  · obtain ⟨v, L', k1, k2⟩ := drop_eq (t := t) (n := o.N) hL
    refine ⟨F, L', t, k1, by omega, hs, Ev.neg h1 (Ev.neg h2 (Ev.pos h3 (Ev.bind (Ev.all fun k => (k2 k).1) (Ev.bind (Ev.all fun k => (k2 k).2) ?_))))⟩
    exact Ev.cast Ev.ret (by simp)
  by_cases h4 : o.Kind = 4
  · obtain ⟨v, L', k1, k2⟩ := double_eq (t := t) (n := o.N) hL
    refine ⟨F, L', t, k1, by omega, hs, Ev.neg h1 (Ev.neg h2 (Ev.neg h3 (Ev.pos h4 (Ev.bind (Ev.all fun k => (k2 k).1) (Ev.bind (Ev.all fun k => (k2 k).2) ?_)))))⟩
    exact Ev.cast Ev.ret (by simp)
  by_cases h5 : o.Kind = 5
  · have hsm : Ev (fun k => ysame k L L) true := same_ok (by unfold big; omega)
    refine ⟨F ++ [L, L], L, t, hL, by simp, fun x hx => ?_, Ev.neg h1 (Ev.neg h2 (Ev.neg h3 (Ev.neg h4 (Ev.pos h5 (Ev.bind (Ev.all fun k => (flying_eq hL k).1) (Ev.bind (Ev.all fun k => (flying_eq hL k).1) (Ev.bind (Ev.all fun k => (flying_eq hL k).2) (Ev.bind hsm (Ev.bind hsm (Ev.bindc (cat_at (by simp; unfold room at hF; omega)) (Ev.bindc (cat_at (by simp; unfold room at hF; omega)) (Ev.pos rfl ?_))))))))))))⟩
    · rcases List.mem_append.1 hx with hx | hx
      · exact hs x hx
      · simp only [List.mem_cons, List.not_mem_nil, or_false, or_self] at hx
        subst hx; exact hL
    · unfold y_step.j2
      exact Ev.ret
  by_cases h6 : o.Kind = 6
  · refine ⟨F, L, w64 (t + 1), hL, by omega, hs, Ev.neg h1 (Ev.neg h2 (Ev.neg h3 (Ev.neg h4 (Ev.neg h5 (Ev.pos h6 (Ev.bindc rfl (Ev.bindc rfl (Ev.pos rfl (Ev.bindc rfl ?_)))))))))⟩
    unfold y_step.j3
    exact Ev.cast Ev.ret (by simp)
  by_cases h7 : o.Kind = 7
  · obtain ⟨m, _, _, hm⟩ := pick_some (b := 2) (by decide) hN
    obtain ⟨q, v, L', k1, k2⟩ := deliver_eq (t := t) (n := w64 (w64 ((L.length : Int) - 1) + m)) hL
    refine ⟨F, L', t, k1, by omega, hs, Ev.neg h1 (Ev.neg h2 (Ev.neg h3 (Ev.neg h4 (Ev.neg h5 (Ev.neg h6 (Ev.pos h7 (Ev.bind (Ev.all hm) (Ev.bind (Ev.all fun k => (k2 k).1) (Ev.bind (Ev.all fun k => (k2 k).2) (Ev.pos rfl ?_))))))))))⟩
    unfold y_step.j4
    exact Ev.cast Ev.ret (by simp)
  · refine ⟨F, L, t, hL, by omega, hs, Ev.neg h1 (Ev.neg h2 (Ev.neg h3 (Ev.neg h4 (Ev.neg h5 (Ev.neg h6 (Ev.neg h7 (Ev.bindc rfl (Ev.bindc rfl ?_))))))))⟩
    exact Ev.cast Ev.ret (by simp)
/-! ### the size -/
theorem yadd_ok {a b : Int} (ha : 0 ≤ a) (ha2 : a ≤ 2147483647) (hb : 0 ≤ b) (hb2 : b ≤ 4611686018427387904) (k : Nat) : ∃ c, (∀ k, yadd k a b = some c) ∧ (c = 2147483648 ∨ (c = a + b ∧ a + b ≤ 2147483647)) := by
  by_cases h : 2147483647 - a < b
  · exact ⟨_, fun k => by unfold yadd; rw [w64_of (by omega) (by omega), if_pos h], .inl rfl⟩
  · exact ⟨_, fun k => by unfold yadd; rw [w64_of (n := 2147483647 - a) (by omega) (by omega), if_neg h], .inr ⟨w64_of (by omega) (by omega), by omega⟩⟩
theorem yadd_big {a b : Int} (ha : 0 ≤ a) (ha2 : a ≤ 4611686018427387904) (hb : 0 ≤ b) (hb2 : b ≤ 100) : ∃ c, (∀ k, yadd k a b = some c) ∧ 0 ≤ c := by
  by_cases h : w64 (2147483647 - a) < b
  · exact ⟨_, fun k => by unfold yadd; rw [if_pos h], by omega⟩
  · exact ⟨w64 (a + b), fun k => by unfold yadd; rw [if_neg h], by rw [w64_of (by omega) (by omega)]; omega⟩
theorem size_l1 {s : List Op} (hs : s.length ≤ 140737488355328) (hok : ∀ o ∈ s, OpOk o) : ∀ (b a : List Op), s = a ++ b → ∀ n : Int, (0 ≤ n ∧ n ≤ 2147483647 ∨ n = 2147483648) → ∃ r : Int, Ev (fun k => ysize.l1 k s n (a.length : Int)) r ∧ (r ≤ 2147483647 → n + 100000 * b.length ≤ r) := by
  intro b
  induction b with
  | nil =>
    intro a h n hn
    refine ⟨n, ?_, fun _ => by simp⟩
    refine Ev.unf ?_
    simp only [ysize.l1]
    refine Ev.neg (by subst h; simp) (Ev.unf ?_)
    simp only [ysize.j1]
    exact Ev.neg (by decide) Ev.ret
  | cons o b ih =>
    intro a h n hn
    have hle : s.length = a.length + (b.length + 1) := by rw [h]; simp
    rcases hn with ⟨hn0, hn⟩ | rfl
    · obtain ⟨hOn, hN, hMany, hD⟩ := hok o (by rw [h]; simp)
      obtain ⟨m, m0, m1, hm⟩ := pick_some (b := 1101) (by decide) hMany
      obtain ⟨c1, e1, p1⟩ := yadd_big (a := (o.P.Data.length : Int)) (b := 100) (by omega) (by omega) (by omega) (by omega)
      have hmin : 0 ≤ min c1 2147483647 ∧ min c1 2147483647 ≤ 2147483647 := by omega
      generalize hq : min c1 2147483647 = q at hmin
      have hprod : 0 ≤ (m + 1) * q ∧ (m + 1) * q ≤ 1101 * 2147483647 := ⟨Int.mul_nonneg (by omega) hmin.1, Int.mul_le_mul (by omega) hmin.2 hmin.1 (by omega)⟩
      obtain ⟨c2, e2, p2⟩ := yadd_ok (a := 100000) (b := (m + 1) * q) (by omega) (by omega) hprod.1 (by omega) 0
      obtain ⟨c3, e3, p3⟩ := yadd_ok (a := n) (b := c2) hn0 hn (by rcases p2 with p2 | p2 <;> omega) (by rcases p2 with p2 | p2 <;> omega) 0
      have hc3 : 0 ≤ c3 ∧ c3 ≤ 2147483647 ∨ c3 = 2147483648 := by rcases p3 with p3 | p3 <;> rcases p2 with p2 | p2 <;> omega
      obtain ⟨r, hr, hb⟩ := ih (a ++ [o]) (by rw [h]; simp) c3 hc3
      refine ⟨r, ?_, fun hr2 => ?_⟩
      · refine Ev.unf ?_
        simp only [ysize.l1]
        refine Ev.pos (by omega) (Ev.unf ?_)
        simp only [ysize.j1]
        refine Ev.pos (decide_eq_true hn) ?_
        refine Ev.bindc (idx_mid h) (Ev.bindc (idx_mid h) (Ev.bind (Ev.all hm) (Ev.bind (Ev.all e1) ?_)))
        rw [w64_of (n := m + 1) (by omega) (by omega), hq, w64_of (n := (m + 1) * q) (by omega) (by omega)]
        refine Ev.bind (Ev.all e2) (Ev.bind (Ev.all e3) ?_)
        rw [w64_succ (by omega)]
        simpa using hr
      · have h1 := hb hr2
        simp only [List.length_cons]
        rcases p3 with p3 | p3 <;> rcases p2 with p2 | p2 <;> omega
    · refine ⟨2147483648, ?_, fun h => by omega⟩
      refine Ev.unf ?_
      simp only [ysize.l1]
      refine Ev.pos (by omega) (Ev.unf ?_)
      simp only [ysize.j1]
      exact Ev.neg (by decide) Ev.ret
/-! ### the plays -/
theorem plays_l3 : ∀ (n x : Nat), x + n = 2 → ∀ (F : LL) (L0 L1 : List Packet) (t0 t1 : Int), L0.length ≤ 1000 → L1.length ≤ 1000 → F.length + 2 * n ≤ room → Short F 1000 → Ev (fun k => law_Plays3.l3 k (x : Int) F F [] [] [] L1 t1 L0 t0 L1 t1 L0 t0) true
  | 0, x, h, F, L0, L1, t0, t1, h0, h1, hF, hs => by
    refine Ev.unf ?_
    simp only [law_Plays3.l3]
    refine Ev.neg (by omega) (Ev.pos (by first | trivial | rfl) (Ev.pos (by first | trivial | rfl) (Ev.pos (by first | trivial | rfl) (Ev.bind (still_ok (by omega) hs) Ev.ret))))
  | n + 1, x, h, F, L0, L1, t0, t1, h0, h1, hF, hs => by
    have ih := plays_l3 n (x + 1) (by omega)
    refine Ev.unf ?_
    simp only [law_Plays3.l3]
    refine Ev.pos (by omega) ?_
    rcases Nat.eq_zero_or_pos x with rfl | hx
    · obtain ⟨F', L', t', a1, a2, a3, a4⟩ := step_ok (L := L0) (t := t0) (F := F) (o := ⟨5, 0, 0, 0, ⟨0, 0, []⟩⟩) h0 (by omega) hs ⟨by decide, by decide⟩
      refine Ev.pos rfl (Ev.bind a4 (Ev.pos rfl ?_))
      exact ih F' L' L1 t' t1 a1 h1 (by omega) a3
    · obtain rfl : x = 1 := by omega
      obtain ⟨F', L', t', a1, a2, a3, a4⟩ := step_ok (L := L1) (t := t1) (F := F) (o := ⟨5, 0, 0, 0, ⟨0, 0, []⟩⟩) h1 (by omega) hs ⟨by decide, by decide⟩
      refine Ev.neg (by decide) (Ev.pos rfl (Ev.bind a4 (Ev.pos rfl ?_)))
      exact ih F' L0 L' t0 t' h0 a1 (by omega) a3
theorem plays_l2 {s : List Op} {o : Op} {i : Int} {x : Int} (hx : x = 0 ∨ x = 1) (hok : OpOk o) {m : Int} (m0 : 0 ≤ m) (m1 : m < 1101) (hm : ∀ k, ypick k o.Many 1101 = some m) {R : Nat}
    (H : ∀ (F : LL) (L0 L1 : List Packet) (t0 t1 : Int), L0.length ≤ 1000 → L1.length ≤ 1000 → F.length ≤ R → Short F 1000 → Ev (fun k => law_Plays3.l1 k s (w64 (i + 1)) F F [] [] [] L1 t1 L0 t0 L1 t1 L0 t0) true) (hR : R ≤ room) :
    ∀ (n q : Nat), (q : Int) + n = m + 1 → ∀ (F : LL) (L0 L1 : List Packet) (t0 t1 : Int), L0.length ≤ 1000 → L1.length ≤ 1000 → F.length + 2 * n ≤ R → Short F 1000 → Ev (fun k => law_Plays3.l2 k s i o x (q : Int) F F [] [] [] L1 t1 L0 t0 L1 t1 L0 t0) true
  | 0, q, h, F, L0, L1, t0, t1, h0, h1, hF, hs => by
    refine Ev.unf ?_
    simp only [law_Plays3.l2]
    refine Ev.bind (Ev.all hm) (Ev.neg (by omega) ?_)
    exact H F L0 L1 t0 t1 h0 h1 (by omega) hs
  | n + 1, q, h, F, L0, L1, t0, t1, h0, h1, hF, hs => by
    have ih := plays_l2 hx hok m0 m1 hm H hR n (q + 1) (by omega)
    refine Ev.unf ?_
    simp only [law_Plays3.l2]
    refine Ev.bind (Ev.all hm) (Ev.pos (by omega) ?_)
    rw [w64_succ (j := q) (by omega)]
    rcases hx with rfl | rfl
    · obtain ⟨F', L', t', a1, a2, a3, a4⟩ := step_ok (L := L0) (t := t0) (F := F) (o := o) h0 (by omega) hs hok.2.1
      refine Ev.pos rfl (Ev.bind a4 (Ev.pos rfl ?_))
      exact ih F' L' L1 t' t1 a1 h1 (by omega) a3
    · obtain ⟨F', L', t', a1, a2, a3, a4⟩ := step_ok (L := L1) (t := t1) (F := F) (o := o) h1 (by omega) hs hok.2.1
      refine Ev.neg (by decide) (Ev.pos rfl (Ev.bind a4 (Ev.pos rfl ?_)))
      exact ih F' L0 L' t0 t' h0 a1 (by omega) a3
theorem plays_l1 {s : List Op} (hs' : s.length ≤ 21475) (hok : ∀ o ∈ s, OpOk o) : ∀ (b a : List Op), s = a ++ b → ∀ (F : LL) (L0 L1 : List Packet) (t0 t1 : Int), L0.length ≤ 1000 → L1.length ≤ 1000 → F.length ≤ 2202 * a.length → Short F 1000 → Ev (fun k => law_Plays3.l1 k s (a.length : Int) F F [] [] [] L1 t1 L0 t0 L1 t1 L0 t0) true
  | [], a, h, F, L0, L1, t0, t1, h0, h1, hF, hs => by
    refine Ev.unf ?_
    simp only [law_Plays3.l1, law_Plays3.j2]
    have : s.length = a.length := by rw [h]; simp
    refine Ev.neg (by omega) ?_
    exact plays_l3 2 0 rfl F L0 L1 t0 t1 h0 h1 (by unfold room; omega) hs
  | o :: b, a, h, F, L0, L1, t0, t1, h0, h1, hF, hs => by
    have ih := plays_l1 hs' hok b (a ++ [o]) (by rw [h]; simp)
    have hle : s.length = a.length + (b.length + 1) := by rw [h]; simp
    have ho := hok o (by rw [h]; simp)
    obtain ⟨x, x0, x1, hx⟩ := pick_some (b := 2) (by decide) ho.1
    obtain ⟨m, m0, m1, hm⟩ := pick_some (b := 1101) (by decide) ho.2.2.1
    refine Ev.unf ?_
    simp only [law_Plays3.l1]
    refine Ev.pos (by omega) (Ev.bindc (idx_mid h) (Ev.bind (Ev.all hx) ?_))
    refine plays_l2 (R := 2202 * (a.length + 1)) (by omega) ho m0 m1 hm (fun F' L0' L1' t0' t1' b0 b1 b2 b3 => ?_) (by unfold room; omega) (m + 1).toNat 0 (by omega) F L0 L1 t0 t1 h0 h1 (by omega) hs
    rw [w64_succ (by omega)]
    simpa using ih F' L0' L1' t0' t1' b0 b1 (by simp; omega) b3
theorem awake_ok : yawake 9 = some true := by kernel_rfl
theorem plays_true {s : List Op} (hs : s.length ≤ 140737488355328) (hok : ∀ o ∈ s, OpOk o) (haw : Ev yawake true) : ∃ k, law_Plays3 k s = some true := by
  refine Ev.get ?_
  unfold law_Plays3
  obtain ⟨r, hr, hb⟩ := size_l1 hs hok s [] rfl 0 (.inl ⟨by omega, by omega⟩)
  refine Ev.bind (f := fun k => ysize k s) hr ?_
  by_cases h : 2147483647 < r
  · exact Ev.pos h Ev.ret
  · have hl := hb (by omega)
    refine Ev.neg h (Ev.bind haw (Ev.bindc rfl (Ev.bindc rfl (Ev.bindc rfl (Ev.bindc rfl (Ev.pos rfl ?_))))))
    unfold law_Plays3.j1
    refine Ev.neg (by decide) ?_
    exact plays_l1 (by omega) hok s [] rfl [] [] [] 0 0 (by simp) (by simp) (by simp) (by simp [Short])
end Go.Proofs.Ytoahkjehjmbojaa
