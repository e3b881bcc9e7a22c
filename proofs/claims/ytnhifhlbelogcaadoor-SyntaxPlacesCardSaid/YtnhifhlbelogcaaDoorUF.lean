/- Where a source is refused: there, whatever stands behind; and not sooner. -/
import Derived.Test.YtnhifhlbelogcaaDoorUD
import Derived.Test.YtnhifhlbelogcaaDoorUE
set_option linter.unusedVariables false
set_option linter.unusedSimpArgs false
namespace Go.Proofs.YtnhifhlbelogcaaDoor
open Go Go.Eng
variable {T U : List Token} {K : Nat}
/-- Where a parse ends; what was wrong. -/
theorem source_end (hl : T.length ≤ 16001) {x : Option Value} {v : Tree} {p : ParK} (h : Ev (fun k => ps_source k (kS T 0 0)) (x, v, p)) : ∃ (j : Nat) (d : Int), p = ⟨T, (j : Int), d⟩ ∧ j ≤ T.length ∧ ∀ f, x = some f → FP T j f := by
  obtain ⟨k, hk⟩ := Ev.get h
  obtain ⟨n', d', e1, l1, l2, f1, _⟩ := source_lp (T := T) (U := T) (K := T.length) ⟨hl, fun _ _ => rfl⟩ k 0 0 (Nat.zero_le _) _ hk
  exact ⟨n', d', e1, l2, f1⟩
/-- Over a list that is alike up to there: the same. -/
theorem source_same (h2 : Two T U K) {x : Option Value} {v : Tree} {j : Nat} {d : Int} (h : Ev (fun k => ps_source k (kS T 0 0)) (x, v, ⟨T, (j : Int), d⟩)) (hj : j ≤ K) : Ev (fun k => ps_source k (kS U 0 0)) (x, v, ⟨U, (j : Int), d⟩) := by
  obtain ⟨K0, h⟩ := h
  refine ⟨K0, fun k hk => ?_⟩
  obtain ⟨n', d', e1, l1, l2, f1, k1⟩ := source_lp (T := T) (U := U) (K := K) h2 k 0 0 (Nat.zero_le _) _ (h k hk)
  have e1' : (⟨T, (j : Int), d⟩ : ParK) = ⟨T, (n' : Int), d'⟩ := e1
  injection e1' with _ e2 e3
  obtain rfl : j = n' := by omega
  subst e3
  exact k1 hj
theorem source_ev (hT : Toks T) (hn : 0 < T.length) : (∃ v p, Sm v ∧ Ev (fun k => ps_source k (kS T 0 0)) (none, v, p)) ∨ ∃ e a z p, Ev (fun k => ps_source k (kS T 0 0)) (some (faultV e a), z, p) := by
  rcases source_l hT _ 0 [] hn (Nat.le_refl _) (by simp) smL_nil (fun _ _ _ => by simp) with ⟨v, p, sv, s1, r1⟩ | ⟨e, a, z, p, s1, r1⟩
  · exact .inl ⟨v, p, sv, s1⟩
  · exact .inr ⟨e, a, z, p, s1⟩
/-- A parse of tokens, as Parse tells it. -/
theorem parse_of {s : List UInt8} (h0 : (scanS s).2.1 = 0) :
    (∀ v p, Ev (fun k => ps_source k (kS (scanS s).1 0 0)) (none, v, p) → Ev (fun k => ps_Parse k s) (v, 0, 0)) ∧
    (∀ e a z p, Ev (fun k => ps_source k (kS (scanS s).1 0 0)) (some (faultV e a), z, p) → Ev (fun k => ps_Parse k s) (noT, e, a)) := by
  refine ⟨fun v p h => ?_, fun e a z p h => ?_⟩
  · unfold ps_Parse
    exact Ev.bind (lx_Scan_ s) (Ev.pos h0 (Ev.bind h (Ev.neg (by simp) Ev.ret)))
  · unfold ps_Parse
    exact Ev.bind (lx_Scan_ s) (Ev.pos h0 (Ev.bind h (Ev.pos rfl (Ev.bindc (x := (some (faultV e a))) rfl (Ev.bindc (faultOf_V e a) Ev.ret)))))
/-- A source that is refused: at a token, with one of three faults. -/
theorem refused {s : List UInt8} (h0 : (scanS s).2.1 = 0) {W : List Token} (hW : Run s 0 s.length W) (hT : (scanS s).1 = W ++ [⟨5, [], 0, (s.length : Int)⟩]) {e a : Int} {z : Tree} {p : ParK}
    (h : Ev (fun k => ps_source k (kS (scanS s).1 0 0)) (some (faultV e a), z, p)) :
    (e = 40 ∨ e = 41 ∨ e = 42) ∧ ∃ (j q : Nat) (d : Int), j ≤ W.length ∧ p = ⟨(scanS s).1, (j : Int), d⟩ ∧ a = (q : Int) ∧ q ≤ s.length ∧ Run s 0 q (W.take j) ∧ (∀ t, (scanS s).1[j]? = some t → t.At = a) := by
  obtain ⟨j, d, rfl, hj, hf⟩ := source_end (scanS_len s) h
  obtain ⟨t, e', ht, hv, he, _⟩ := hf _ rfl
  obtain ⟨rfl, rfl⟩ := faultV_inj hv
  refine ⟨he, ?_⟩
  have hu : ∀ u, (scanS s).1[j]? = some u → u.At = t.At := fun u hu => by rw [ht] at hu; cases hu; rfl
  have hlt := (List.getElem?_eq_some_iff.1 ht).1
  rw [hT] at ht hlt
  rw [List.length_append, List.length_singleton] at hlt
  by_cases hjl : j < W.length
  · rw [List.getElem?_append_left hjl, List.getElem?_eq_getElem hjl] at ht
    cases ht
    obtain ⟨q, e1, e2, e3, e4⟩ := hW.at j hjl
    exact ⟨j, q, d, by omega, rfl, e1, by omega, e4, hu⟩
  · have : j = W.length := by omega
    subst this
    rw [List.getElem?_append_right (Nat.le_refl _), Nat.sub_self] at ht
    cases ht
    exact ⟨W.length, s.length, d, Nat.le_refl _, rfl, rfl, Nat.le_refl _, by rw [List.take_length]; exact hW, hu⟩
/-- All that stands ahead of the place may be gone on with. -/
theorem ahead {s : List UInt8} (h0 : (scanS s).2.1 = 0) {W : List Token} (hW : Run s 0 s.length W) (hT : (scanS s).1 = W ++ [⟨5, [], 0, (s.length : Int)⟩]) {e a : Int} {z : Tree} {j q : Nat} {d : Int}
    (h : Ev (fun k => ps_source k (kS (scanS s).1 0 0)) (some (faultV e a), z, ⟨(scanS s).1, (j : Int), d⟩)) (hj : j ≤ W.length) (hq : q ≤ s.length) (hr : Run s 0 q (W.take j)) (haq : a = (q : Int)) :
    ∃ r : Tree × Int × Int, Ev (fun k => ps_Parse k (s.take q)) r ∧ (r.2.1 = 0 ∨ (r.2.1 = 40 ∧ r.2.2 = a)) := by
  have hsl := (scanS_run h0).1
  have hsc := scan_take hsl hr hq
  have hok : (scanS (s.take q)).2.1 = 0 := by rw [hsc]
  have hU := toks_scan hok
  have hUe : (scanS (s.take q)).1 = W.take j ++ [⟨5, [], 0, (q : Int)⟩] := by rw [hsc]
  have hlen : (scanS (s.take q)).1.length = j + 1 := by rw [hUe, List.length_append, List.length_take, List.length_singleton]; omega
  obtain ⟨p1, p2⟩ := parse_of hok
  rcases source_ev hU (by omega) with ⟨v, p, _, hs⟩ | ⟨e', a', z', p', hs⟩
  · exact ⟨_, p1 v p hs, .inl rfl⟩
  · refine ⟨_, p2 e' a' z' p' hs, .inr ?_⟩
    obtain ⟨i, d', rfl, hi, hf⟩ := source_end (scanS_len _) hs
    obtain ⟨t, e'', ht, hv, he, h5⟩ := hf _ rfl
    obtain ⟨rfl, rfl⟩ := faultV_inj hv
    have hlt := (List.getElem?_eq_some_iff.1 ht).1
    by_cases hij : i < j
    · exfalso
      have h2 : Two (scanS (s.take q)).1 (scanS s).1 i := ⟨scanS_len _, fun m hm => by
        rw [hUe, hT, List.getElem?_append_left (by rw [List.length_take]; omega), List.getElem?_append_left (by omega), List.getElem?_take_of_lt (by omega)]⟩
      have := source_same h2 hs (Nat.le_refl _)
      have := Ev.det h this
      injection this with _ e2
      injection e2 with _ e3
      injection e3 with _ e4 _
      omega
    · have : i = j := by omega
      subst this
      rw [hUe, List.getElem?_append_right (by rw [List.length_take]; omega)] at ht
      rw [show i - (W.take i).length = 0 by rw [List.length_take]; omega] at ht
      cases ht
      exact ⟨h5 rfl, haq.symm⟩
/-- Whatever stands behind: refused there, and so. -/
theorem behind {s x : List UInt8} (h0 : (scanS s).2.1 = 0) {W : List Token} (hT : (scanS s).1 = W ++ [⟨5, [], 0, (s.length : Int)⟩]) {e a : Int} {z : Tree} {j q1 : Nat} {d : Int}
    (h : Ev (fun k => ps_source k (kS (scanS s).1 0 0)) (some (faultV e a), z, ⟨(scanS s).1, (j : Int), d⟩)) (hj : j < W.length) (hq : q1 ≤ s.length) (hr : Run s 0 q1 (W.take (j + 1))) (hok : (scanS (s.take q1 ++ 32 :: x)).2.1 = 0) :
    Ev (fun k => ps_Parse k (s.take q1 ++ 32 :: x)) (noT, e, a) := by
  obtain ⟨R, hR⟩ := scan_more hr hq hok
  have h2 : Two (scanS s).1 (scanS (s.take q1 ++ 32 :: x)).1 j := ⟨scanS_len _, fun m hm => by
    rw [hR, hT, List.getElem?_append_left (by omega), List.getElem?_append_left (by rw [List.length_take]; omega), List.getElem?_take_of_lt (by omega)]⟩
  exact (parse_of hok).2 e a z _ (source_same h2 h (Nat.le_refl _))
end Go.Proofs.YtnhifhlbelogcaaDoor
