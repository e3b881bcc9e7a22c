/- SyntaxPlaces' plain law: true for all. -/
import Derived.Test.YtnhifhlbelogcaaDoorUF
import Derived.Test.YtnhifhlbelogcaaDoorPP
set_option linter.unusedVariables false
set_option linter.unusedSimpArgs false
namespace Go.Proofs.YtnhifhlbelogcaaDoor
open Go Go.Eng
set_option maxRecDepth 1000000 in
theorem sy_awake_k (k : Nat) : sy_awake (k + 60) = some true := by kernel_rfl
theorem add_ (k : Nat) {a b : Int} (ha : 0 ≤ a) (ha' : a ≤ 1125899906842624) (hb : 0 ≤ b) (hb' : b ≤ 1125899906842624) : ∃ r, (∀ k, sy_add k a b = some r) ∧ 0 ≤ r ∧ r ≤ 2147483648 ∧ (r ≤ 2147483647 → r = a + b) := by
  unfold sy_add
  rw [w64_of (n := 2147483647 - a) (by omega) (by omega), w64_of (n := a + b) (by omega) (by omega)]
  by_cases h : 2147483647 - a < b
  · exact ⟨2147483648, fun k => by rw [if_pos h], by omega, by omega, by omega⟩
  · exact ⟨a + b, fun k => by rw [if_neg h], by omega, by omega, fun _ => rfl⟩
theorem thrice_ {a : Int} (ha : 0 ≤ a) (ha' : a ≤ 1125899906842624) : ∃ r, (∀ k, sy_thrice k a = some r) ∧ 0 ≤ r ∧ r ≤ 2147483648 ∧ (r ≤ 2147483647 → r = 3 * a) := by
  obtain ⟨r1, h1, p1, q1, e1⟩ := add_ 0 ha ha' ha ha'
  obtain ⟨r2, h2, p2, q2, e2⟩ := add_ 0 ha ha' p1 (by omega)
  refine ⟨r2, fun k => ?_, p2, q2, fun h => ?_⟩
  · unfold sy_thrice
    rw [h1, Option.bind_some, h2]
    rfl
  · have := e2 h
    have := e1 (by omega)
    omega
section
variable {s o : List UInt8} {r : Tree × Int × Int}
theorem places_j2 (b : Bool) (hb : b = true) : Ev (fun k => law_Places.j2 k s o (scanS s) r b) true := by
  unfold law_Places.j2
  exact Ev.pos hb Ev.ret
/-- What is refused by a token. -/
theorem places_j3 {W : List Token} (ho : o.length ≤ 2147483647) (h0 : (scanS s).2.1 = 0) (hW : Run s 0 s.length W) (hT : (scanS s).1 = W ++ [⟨5, [], 0, (s.length : Int)⟩]) {e a : Int} {z : Tree} {p : ParK}
    (h : Ev (fun k => ps_source k (kS (scanS s).1 0 0)) (some (faultV e a), z, p)) : Ev (fun k => law_Places.j3 k s o (scanS s) (noT, e, a)) true := by
  have hsl := (scanS_run h0).1
  have hTl : (scanS s).1.length = W.length + 1 := by rw [hT]; simp
  have hlen := scanS_len s
  obtain ⟨he, j, q, d, hj, rfl, haq, hq, hr, hat⟩ := refused h0 hW hT h
  have hj5 : Ev (fun k => law_Places.j5 k s o (scanS s) (noT, e, a) (j : Int)) true := by
    unfold law_Places.j5
    rw [w64_succ (by omega)]
    by_cases hl : ((j + 1 : Nat) : Int) = ((scanS s).1.length : Int)
    · exact Ev.pos hl Ev.ret
    · have hjW : j < W.length := by omega
      have hx : ∃ q1 : Nat, ((scanS s).1[j + 1]'(by omega)).At = (q1 : Int) ∧ q1 ≤ s.length ∧ Run s 0 q1 (W.take (j + 1)) := by
        by_cases h1 : j + 1 < W.length
        · obtain ⟨q1, e1, e2, e3, e4⟩ := hW.at (j + 1) h1
          refine ⟨q1, ?_, by omega, e4⟩
          rw [← e1]
          simp only [hT]
          rw [List.getElem_append_left h1]
        · have : j + 1 = W.length := by omega
          refine ⟨s.length, ?_, Nat.le_refl _, by rw [this, List.take_length]; exact hW⟩
          simp only [hT]
          rw [List.getElem_append_right (by omega)]
          simp [this]
      obtain ⟨q1, e1, e2, e3⟩ := hx
      refine Ev.neg hl (Ev.bindc (idx_at rfl (by omega)) ?_)
      refine Ev.bindc (cut_to e1 e2) ?_
      refine Ev.bindc (cat_at (by simp only [List.length_take, List.length_singleton]; omega)) ?_
      refine Ev.bindc (cat_at (by simp only [List.length_append, List.length_take, List.length_singleton]; omega)) ?_
      rw [show s.take q1 ++ [32] ++ o = s.take q1 ++ 32 :: o by simp]
      refine Ev.bind (lx_Scan_ _) ?_
      by_cases hok : (scanS (s.take q1 ++ 32 :: o)).2.1 = 0
      · exact Ev.bind (behind h0 hT h hjW e2 e3 hok) (Ev.pos hok (Ev.pos rfl (Ev.cast Ev.ret (by simp))))
      · refine Ev.bind (r := (noT, (scanS (s.take q1 ++ 32 :: o)).2.1, (scanS (s.take q1 ++ 32 :: o)).2.2)) ?_ (Ev.neg hok Ev.ret)
        unfold ps_Parse
        exact Ev.bind (lx_Scan_ _) (Ev.neg hok Ev.ret)
  have hj4 : Ev (fun k => law_Places.j4 k s o (scanS s) (noT, e, a) (j : Int)) true := by
    unfold law_Places.j4
    refine Ev.neg (by omega) (Ev.bindc (cut_to haq hq) ?_)
    obtain ⟨r', h1, h2⟩ := ahead h0 hW hT h hj hq hr haq
    refine Ev.bind h1 ?_
    by_cases h3 : r'.2.1 = 0
    · exact Ev.pos h3 hj5
    · obtain ⟨h4, h5⟩ := h2.resolve_left h3
      exact Ev.neg h3 (Ev.pos h4 (Ev.pos h5 hj5))
  have loop : ∀ (d i : Nat), j - i = d → i ≤ j → Ev (fun k => law_Places.l1 k s o (scanS s) (noT, e, a) (i : Int)) true := by
    intro d
    induction d with
    | zero =>
      intro i h1 h2
      have : i = j := by omega
      subst this
      refine Ev.unf ?_
      simp only [law_Places.l1]
      have hi : i < (scanS s).1.length := by omega
      exact Ev.pos (by omega) (Ev.bindc (idx_at rfl hi) (Ev.pos (hat _ (List.getElem?_eq_getElem hi)) hj4))
    | succ d ih =>
      intro i h1 h2
      have hi : i < (scanS s).1.length := by omega
      have hiW : i < W.length := by omega
      have hne : ¬ (scanS s).1[i].At = a := by
        obtain ⟨q2, e1, e2, e3, e4⟩ := hr.at i (by rw [List.length_take]; omega)
        rw [List.getElem_take] at e1
        have : (scanS s).1[i] = W[i] := by
          simp only [hT]
          rw [List.getElem_append_left hiW]
        rw [this, e1]
        omega
      refine Ev.unf ?_
      simp only [law_Places.l1]
      refine Ev.pos (by omega) (Ev.bindc (idx_at rfl hi) (Ev.neg hne ?_))
      rw [w64_succ (by omega)]
      exact ih (i + 1) (by omega) (by omega)
  unfold law_Places.j3
  exact loop j 0 rfl (Nat.zero_le _)
end
theorem places_true (s o : List UInt8) (hs : s.length ≤ 140737488355328) (ho : o.length ≤ 140737488355328) : ∃ k, law_Places k s o = some true := by
  refine Ev.get (f := fun k => law_Places k s o) ?_
  unfold law_Places
  obtain ⟨r1, e1, p1, q1, f1⟩ := thrice_ (a := (s.length : Int)) (by omega) (by omega)
  obtain ⟨r2, e2, p2, q2, f2⟩ := thrice_ (a := (o.length : Int)) (by omega) (by omega)
  obtain ⟨r3, e3, p3, q3, f3⟩ := add_ 0 p1 (by omega) p2 (by omega)
  obtain ⟨r4, e4, p4, q4, f4⟩ := thrice_ p3 (by omega)
  refine Ev.bind (Ev.all e1) (Ev.bind (Ev.all e2) (Ev.bind (Ev.all e3) (Ev.bind (Ev.all e4) ?_)))
  by_cases hb : 2147483647 < r4
  · exact Ev.pos hb Ev.ret
  · have g4 := f4 (by omega)
    have g3 := f3 (by omega)
    have g2 := f2 (by omega)
    have ho' : o.length ≤ 2147483647 := by omega
    have haw : Ev (fun k => sy_awake k) true := ⟨60, fun k hk => by
      obtain ⟨j, rfl⟩ := Nat.exists_eq_add_of_le hk
      rw [Nat.add_comm]
      exact sy_awake_k j⟩
    refine Ev.neg hb (Ev.bind haw (Ev.bind (lx_Scan_ s) ?_))
    by_cases h0 : (scanS s).2.1 = 0
    · obtain ⟨hsl, W, hW, hT⟩ := scanS_run h0
      obtain ⟨c1, c2⟩ := parse_of h0
      rcases source_ev (toks_scan h0) (by rw [hT]; simp) with ⟨v, p, _, hv⟩ | ⟨e, a, z, p, hv⟩
      · refine Ev.bind (c1 v p hv) (Ev.pos rfl (Ev.neg (show ¬ (30 : Int) ≤ 0 by decide) (Ev.pos (by simp [h0]) ?_)))
        unfold law_Places.j1
        exact Ev.pos rfl (places_j2 true rfl)
      · obtain ⟨he, _⟩ := refused h0 hW hT hv
        refine Ev.bind (c2 e a z p hv) (Ev.pos rfl (Ev.pos (show (30 : Int) ≤ e by omega) (Ev.pos (by rw [decide_eq_true h0, decide_eq_false (show ¬ e < 40 by omega)]; rfl) ?_)))
        unfold law_Places.j1
        refine Ev.neg (show ¬ e = 0 by omega) ?_
        unfold law_Places.j2
        refine Ev.neg (by simp [h0]) ?_
        have h3 := places_j3 (o := o) ho' h0 hW hT hv
        by_cases e40 : e = 40
        · exact Ev.pos e40 h3
        · by_cases e41 : e = 41
          · exact Ev.neg e40 (Ev.pos e41 h3)
          · exact Ev.neg e40 (Ev.neg e41 (Ev.pos (show e = 42 by omega) h3))
    · have herr := (scanS_err s).resolve_left h0
      have hp : Ev (fun k => ps_Parse k s) (noT, (scanS s).2.1, (scanS s).2.2) := by
        unfold ps_Parse
        exact Ev.bind (lx_Scan_ s) (Ev.neg h0 Ev.ret)
      refine Ev.bind hp (Ev.pos rfl (Ev.pos herr.1 (Ev.pos (by rw [decide_eq_false h0, decide_eq_true herr.2]; rfl) ?_)))
      unfold law_Places.j1
      exact Ev.neg h0 (places_j2 _ (by simp [h0]))
end Go.Proofs.YtnhifhlbelogcaaDoor
