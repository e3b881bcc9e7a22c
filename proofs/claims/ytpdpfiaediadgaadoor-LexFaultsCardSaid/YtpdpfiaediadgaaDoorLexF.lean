/- The errors' law answers true. -/
import Derived.Test.YtpdpfiaediadgaaDoorLexU
set_option linter.unusedVariables false
namespace Go.Proofs.YtpdpfiaediadgaaDoor
open Go Go.Eng
theorem faults_j5 (s m : List UInt8) (hm : m.length ≤ 2147467645) (hs : s.length ≤ 16000) {b X : Nat} {e : Int} (hX : X ≤ s.length)
    (h : (s.take X ++ 32 :: m).length ≤ 16000 → scanS (s.take X ++ 32 :: m) = ([], e, (b : Int))) :
    Ev (fun k => law_Faults.j5 k s m ([], e, (b : Int)) (X : Int)) true := by
  unfold law_Faults.j5
  have hl : (s.take X).length = X := by rw [List.length_take]; omega
  refine Ev.bindc (cut_to (b := X) rfl hX) ?_
  refine Ev.bindc (cat_at (by rw [hl, List.length_singleton]; omega)) ?_
  refine Ev.bindc (cat_at (by rw [List.length_append, hl, List.length_singleton]; omega)) ?_
  rw [List.append_assoc, List.singleton_append]
  refine Ev.bind (lx_Scan_ _) ?_
  by_cases hlen : 16000 < (s.take X ++ 32 :: m).length
  · exact Ev.pos (by omega) Ev.ret
  · refine Ev.neg (by omega) ?_
    rw [h (by omega)]
    exact Ev.pos rfl (Ev.ret.cast (by simp))
theorem faults_l (s m : List UInt8) (hm : m.length ≤ 2147467645) (hs : s.length ≤ 16000) {b : Nat} {e : Int}
    (h : ∀ X, X = b + 1 + (if e = 30 then 0 else runLen (s.drop (b + 1))) → (s.take X ++ 32 :: m).length ≤ 16000 → scanS (s.take X ++ 32 :: m) = ([], e, (b : Int))) (hb : b < s.length) :
    Ev (fun k => law_Faults.l1 k s m ([], e, (b : Int)) ((b + 1 : Nat) : Int)) true := by
  have key : ∀ (d x : Nat), s.length - x = d → x ≤ s.length → b + 1 ≤ x → (e = 30 → x = b + 1) → (e ≠ 30 → x + runLen (s.drop x) = b + 1 + runLen (s.drop (b + 1))) → Ev (fun k => law_Faults.l1 k s m ([], e, (b : Int)) (x : Int)) true := by
    intro d
    induction d with
    | zero =>
      intro x hd hx hbx h30 hr
      refine Ev.step (g := fun k => law_Faults.l1 (k + 1) s m ([], e, (b : Int)) (x : Int)) ?_ (fun _ => rfl)
      simp only [law_Faults.l1]
      refine Ev.neg (by omega) ?_
      refine faults_j5 s m hm hs hx (h x ?_)
      by_cases c : e = 30
      · rw [if_pos c, h30 c]
      · rw [if_neg c, ← hr c, List.drop_eq_nil_of_le (by omega)]; rfl
    | succ d ih =>
      intro x hd hx hbx h30 hr
      have hlt : x < s.length := by omega
      refine Ev.step (g := fun k => law_Faults.l1 (k + 1) s m ([], e, (b : Int)) (x : Int)) ?_ (fun _ => rfl)
      simp only [law_Faults.l1]
      refine Ev.pos (by omega) ?_
      by_cases c : e = 30
      · refine Ev.pos c ?_
        exact faults_j5 s m hm hs hx (h x (by rw [if_pos c, h30 c]))
      · refine Ev.neg c ?_
        refine Ev.bindc (idx_at rfl hlt) ?_
        refine Ev.bind (Ev.all fun k => lw_within_ k _) ?_
        have hr' := hr c
        rw [List.drop_eq_getElem_cons hlt, runLen_cons] at hr'
        by_cases g : inRun s[x] = true
        · rw [if_pos g] at hr'
          refine Ev.pos g ?_
          rw [w64_succ (by omega)]
          exact ih (x + 1) (by omega) (by omega) (by omega) (fun h => absurd h c) (fun _ => by omega)
        · rw [if_neg g] at hr'
          refine Ev.neg g ?_
          exact faults_j5 s m hm hs hx (h x (by rw [if_neg c]; omega))
  exact key _ (b + 1) rfl (by omega) (Nat.le_refl _) (fun _ => rfl) (fun _ => rfl)
theorem faults_true (s m : List UInt8) : ∃ k, law_Faults k s m = some true := by
  refine Ev.get ?_
  unfold law_Faults
  by_cases hm : (2147467645 : Int) < (m.length : Int)
  · exact Ev.pos hm Ev.ret
  refine Ev.neg hm ?_
  refine Ev.bind known_ ?_
  refine Ev.bind (lx_Scan_ s) ?_
  by_cases hs : 16000 < s.length
  · have e : scanS s = ([], 34, 16000) := if_pos hs
    rw [e]
    refine Ev.neg (by decide) (Ev.pos rfl (Ev.pos rfl (Ev.pos (by omega) (Ev.pos rfl ?_))))
    exact Ev.ret
  have e : scanS s = scanG (s.length + 1) s 0 [] := if_neg hs
  rcases scan_or s (s.length + 1) 0 [] (by omega) (by omega) (Nat.le_refl _) with ⟨L, hL, h⟩ | ⟨b, err, hR, hb, hbad, h⟩
  · rw [e, h]
    have h1 : w64 (((L ++ [endT s]).length : Int) - 1) = (L.length : Int) := by rw [List.length_append, List.length_singleton, w64_of (by omega) (by omega)]; omega
    refine Ev.pos rfl (Ev.pos rfl (Ev.pos rfl (Ev.pos (by simp) ?_)))
    refine Ev.bindc (idx_at (j := L.length) h1 (by simp)) ?_
    exact Ev.ret.cast (by simp [endT])
  · rw [e, h]
    have hok := nextS_ok _ (drop_ne hb)
    rw [hbad] at hok
    have hne : err ≠ 0 ∧ err ≠ 34 := by rcases hok with h | h | h | h <;> subst h <;> decide
    refine Ev.neg hne.1 (Ev.neg hne.2 (Ev.pos rfl (Ev.pos rfl (Ev.neg (show ¬ (b : Int) < 0 by omega) ?_))))
    rw [decide_eq_false (show ¬ (s.length : Int) ≤ (b : Int) by omega)]
    unfold law_Faults.j3
    refine Ev.neg (by simp) ?_
    have hl : (s.take b).length = b := by rw [List.length_take]; omega
    refine Ev.bindc (cut_to (b := b) rfl (by omega)) ?_
    obtain ⟨L, hL⟩ := scan_ends (Nat.le_of_lt hb) (by omega) hR
    refine Ev.bind ((lx_Scan_ _).cast hL) ?_
    refine Ev.pos rfl ?_
    by_cases c33 : err = 33
    · refine Ev.pos c33 ?_
      refine Ev.bindc (cut_to (b := b) rfl (by omega)) ?_
      refine Ev.bindc (cat_at (by rw [hl]; show b + 3 ≤ _; omega)) ?_
      refine Ev.bindc (cat_at (by rw [List.length_append, hl]; show b + 3 + 2 ≤ _; omega)) ?_
      have e2 : s.take b ++ [47, 42, 32] ++ [42, 47] = s.take b ++ [47, 42, 32, 42, 47] := by rw [List.append_assoc]; rfl
      rw [e2]
      by_cases h5 : b + 5 ≤ 16000
      · obtain ⟨M, hM⟩ := scan_note hb hR (by rw [hbad, c33]) h5
        refine Ev.bind ((lx_Scan_ _).cast hM) ?_
        exact Ev.pos rfl (Ev.pos rfl Ev.ret)
      · refine Ev.bind ((lx_Scan_ _).cast (r' := ([], 34, 16000)) (if_pos (by rw [List.length_append, hl]; show 16000 < b + 5; omega))) ?_
        refine Ev.neg (by decide) ?_
        refine Ev.ret.cast ?_
        show decide ((16000 : Int) < w64 ((b : Int) + 5)) = true
        rw [w64_of (by omega) (by omega)]
        exact decide_eq_true (by omega)
    · refine Ev.neg c33 ?_
      rw [w64_succ (by omega)]
      exact faults_l s m (by omega) (by omega) (fun X hX hlen => scan_fault hb hR hbad c33 m hX hlen) hb
end Go.Proofs.YtpdpfiaediadgaaDoor
