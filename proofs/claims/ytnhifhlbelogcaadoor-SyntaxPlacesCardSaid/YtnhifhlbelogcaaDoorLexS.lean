/- The scanners' plain functions: a step, and a whole scan. -/
import Derived.Test.YtnhifhlbelogcaaDoorLexR
set_option linter.unusedVariables false
namespace Go.Proofs.YtnhifhlbelogcaaDoor
open Go Go.Eng
theorem runLen_minus {c : UInt8} {l : List UInt8} (h : minusDigit c l = true) : c = 45 ∧ l.take (runLen l) ≠ [] := by
  unfold minusDigit at h
  rw [Bool.and_eq_true, decide_eq_true_eq] at h
  refine ⟨h.1, ?_⟩
  cases l with
  | nil => cases h.2
  | cons d l =>
    have hd : isDigit d = true := h.2
    have hr : inRun d = true := by simp [inRun, hd]
    rw [runLen_cons, if_pos hr]
    simp
theorem nextS_cons (c : UInt8) (l : List UInt8) : nextS (c :: l) =
    if isBlank c then .skip 1
    else if (c :: l).take 2 = [47, 42] then (if Lib.index ((c :: l).drop 2) ends < 0 then .bad 33 else .skip ((Lib.index ((c :: l).drop 2) ends).toNat + 4))
    else if isLetter c then (if isWord ((c :: l).take (runLen (c :: l))) then .tok ⟨2, (c :: l).take (runLen (c :: l)), 0, 0⟩ (runLen (c :: l)) else if 32 < runLen (c :: l) then .bad 32 else .tok ⟨1, (c :: l).take (runLen (c :: l)), 0, 0⟩ (runLen (c :: l)))
    else if isDigit c || minusDigit c l then (if (numS (decide (c = 45)) (if c = 45 then l.take (runLen l) else (c :: l).take (1 + runLen l))).2 then .tok ⟨3, [], (numS (decide (c = 45)) (if c = 45 then l.take (runLen l) else (c :: l).take (1 + runLen l))).1, 0⟩ (1 + runLen l) else .bad 31)
    else if isSign c then .tok ⟨4, [c], 0, 0⟩ 1
    else .bad 30 := rfl
theorem index_in (l : List UInt8) : ¬ Lib.index l ends < 0 → Lib.index l ends + 2 ≤ (l.length : Int) := by
  induction l with
  | nil => intro h; exact absurd (show Lib.index [] ends < 0 by decide) h
  | cons c l ih =>
    rw [index_cons]
    intro h
    by_cases h1 : (c :: l).take 2 = ends
    · rw [if_pos h1] at h ⊢
      have := congrArg List.length h1
      rw [List.length_take] at this
      have e : ends.length = 2 := rfl
      omega
    · rw [if_neg h1] at h ⊢
      by_cases h2 : Lib.index l ends < 0
      · rw [if_pos h2] at h; omega
      · rw [if_neg h2] at h ⊢
        have := ih h2
        rw [List.length_cons]; omega
theorem lx_next_ (m : List UInt8) (h0 : m ≠ []) (hs : m.length ≤ 16000) : Ev (fun k => lx_next k m) (nextS m).out := by
  obtain ⟨c, l, rfl⟩ : ∃ c l, m = c :: l := by cases m with | nil => exact absurd rfl h0 | cons c l => exact ⟨c, l, rfl⟩
  have hb := begins_ c l hs
  have hl : l.length ≤ 15999 := by rw [List.length_cons] at hs; omega
  have hrl := runLen_le l
  unfold lx_next
  refine Ev.bind hb ?_
  rw [nextS_cons]
  by_cases c1 : isBlank c = true
  · rw [if_pos c1, if_pos c1]
    exact Ev.pos rfl Ev.ret
  rw [if_neg c1, if_neg c1]
  by_cases c2 : (c :: l).take 2 = [47, 42]
  · have h2 : 2 ≤ (c :: l).length := by have := congrArg List.length c2; rw [List.length_take] at this; simp only [List.length_cons, List.length_nil] at this ⊢; omega
    rw [if_pos c2, if_pos c2]
    refine Ev.neg (by omega) (Ev.pos rfl ?_)
    refine Ev.bindc (cut_from (a := 2) rfl h2) ?_
    refine Ev.bind (r := Lib.index ((c :: l).drop 2) ends) (Ev.all fun k => if_pos (by rw [List.length_drop]; omega)) ?_
    have hlt := index_in ((c :: l).drop 2)
    rw [List.length_drop] at hlt
    have hge := index_ge ((c :: l).drop 2) ends
    by_cases c3 : Lib.index ((c :: l).drop 2) ends < 0
    · refine Ev.pos c3 (Ev.ret.cast ?_)
      rw [if_pos c3]; rfl
    · refine Ev.neg c3 ?_
      rw [w64_of (show -9223372036854775808 ≤ Lib.index (List.drop 2 (c :: l)) ends + 4 by omega) (show Lib.index (List.drop 2 (c :: l)) ends + 4 ≤ 9223372036854775807 by have := hlt c3; omega)]
      refine Ev.ret.cast ?_
      rw [if_neg c3]
      unfold Nx.out
      have : (Lib.index (List.drop 2 (c :: l)) ends) + 4 = (((Lib.index (List.drop 2 (c :: l)) ends).toNat + 4 : Nat) : Int) := by omega
      exact congrArg (fun z => (tz, z, (0 : Int))) this
  rw [if_neg c2, if_neg c2]
  by_cases c3 : isLetter c = true
  · rw [if_pos c3, if_pos c3]
    refine Ev.neg (by omega) (Ev.neg (by omega) (Ev.pos rfl ?_))
    have hr := runLen_le (c :: l)
    refine Ev.bind (lx_run_ _ (big_max (by omega))) ?_
    refine Ev.bindc (cut_to (b := runLen (c :: l)) rfl hr) ?_
    have hlen : (List.take (runLen (c :: l)) (c :: l)).length = runLen (c :: l) := by rw [List.length_take]; omega
    refine Ev.bind (lx_IsWord_ _) ?_
    by_cases c4 : isWord (List.take (runLen (c :: l)) (c :: l)) = true
    · rw [if_pos c4]
      refine Ev.pos c4 ?_
      refine Ev.ret.cast ?_
      unfold Nx.out
      rw [hlen]
    · rw [if_neg c4]
      refine Ev.neg c4 ?_
      rw [hlen]
      by_cases c5 : 32 < runLen (c :: l)
      · rw [if_pos c5]
        exact Ev.pos (by omega) Ev.ret
      · rw [if_neg c5]
        refine Ev.neg (by omega) ?_
        refine Ev.ret.cast ?_
        unfold Nx.out
        rw [hlen]
  rw [if_neg c3, if_neg c3]
  by_cases c4 : (isDigit c || minusDigit c l) = true
  · rw [if_pos c4, if_pos c4]
    refine Ev.neg (by omega) (Ev.neg (by omega) (Ev.neg (by omega) (Ev.pos rfl ?_)))
    refine Ev.bindc (cut_from (a := 1) rfl (by simp)) ?_
    rw [show List.drop 1 (c :: l) = l from rfl]
    refine Ev.bind (lx_run_ l (big_max (by omega))) ?_
    have e1 : w64 (1 + (runLen l : Int)) = ((1 + runLen l : Nat) : Int) := by rw [w64_of (by omega) (by omega)]; omega
    rw [e1]
    refine Ev.bindc (cut_to (b := 1 + runLen l) rfl (by rw [List.length_cons]; omega)) ?_
    have e2 : List.take (1 + runLen l) (c :: l) = c :: l.take (runLen l) := by rw [Nat.add_comm]; rfl
    rw [e2]
    have hcond : c = 45 ∧ l.take (runLen l) ≠ [] ∨ isDigit c = true := by
      by_cases hd : isDigit c = true
      · exact .inr hd
      · simp only [Bool.not_eq_true] at hd
        rw [hd, Bool.false_or] at c4
        exact .inl (runLen_minus c4)
    refine Ev.bind (numbered_ c (l.take (runLen l)) (by rw [List.length_cons, List.length_take]; omega) hcond) ?_
    by_cases c5 : (numS (decide (c = 45)) (if c = 45 then l.take (runLen l) else c :: l.take (runLen l))).2 = true
    · refine Ev.pos c5 (Ev.ret.cast ?_)
      rw [if_pos c5]; rfl
    · refine Ev.neg c5 (Ev.ret.cast ?_)
      rw [if_neg c5]; rfl
  rw [if_neg c4, if_neg c4]
  by_cases c5 : isSign c = true
  · rw [if_pos c5, if_pos c5]
    refine Ev.neg (by omega) (Ev.neg (by omega) (Ev.neg (by omega) (Ev.neg (by omega) (Ev.pos rfl ?_))))
    refine Ev.bindc (cut_to (b := 1) rfl (by simp)) ?_
    exact Ev.ret
  · rw [if_neg c5, if_neg c5]
    exact Ev.neg (by omega) (Ev.neg (by omega) (Ev.neg (by omega) (Ev.neg (by omega) (Ev.neg (by omega) Ev.ret))))
end Go.Proofs.YtnhifhlbelogcaaDoor
