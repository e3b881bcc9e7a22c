/- Both parsers: does a bare type begin? -/
import Derived.Test.YtnhifhlbelogcaaDoorSC
set_option linter.unusedVariables false
set_option linter.unusedSimpArgs false
namespace Go.Proofs.YtnhifhlbelogcaaDoor
open Go Go.Eng
variable {T : List Token} {n d : Nat} {t : Token}
def bareK (s : List UInt8) : Int := if s = [105, 110, 116] then 18 else if s = [104, 121, 112, 101, 114] then 20 else if s = [102, 108, 111, 97, 116] then 22 else if s = [100, 111, 117, 98, 108, 101] then 23 else if s = [98, 111, 111, 108] then 24 else 0
theorem pr_base_ (s : List UInt8) (k : Nat) : pr_base k s = some (bareK s) := by
  unfold pr_base bareK
  by_cases a1 : s = [105, 110, 116]
  · simp [a1]
  by_cases a2 : s = [104, 121, 112, 101, 114]
  · simp [a2]
  by_cases a3 : s = [102, 108, 111, 97, 116]
  · simp [a3]
  by_cases a4 : s = [100, 111, 117, 98, 108, 101]
  · simp [a4]
  by_cases a5 : s = [98, 111, 111, 108]
  · simp [a5]
  · simp [a1, a2, a3, a4, a5]
/-- Does a bare type begin? -/
def begins (t : Token) : Bool := if t.Kind = 1 then true else if t.Kind = 2 then (if t.Text = [117, 110, 115, 105, 103, 110, 101, 100] then true else !(decide (bareK t.Text = 0))) else false
theorem pr_begins_ {e a : Int} (hn : T[n]? = some t) (k : Nat) : pr_begins k (rF T n d e a) = some (begins t) := by
  unfold pr_begins begins
  rw [idx_some hn, Option.bind_some]
  by_cases h1 : t.Kind = 1
  · rw [if_pos h1, if_pos h1]
  · rw [if_neg h1, if_neg h1]
    by_cases h2 : t.Kind = 2
    · rw [if_pos h2, if_pos h2]
      by_cases h3 : t.Text = [117, 110, 115, 105, 103, 110, 101, 100]
      · rw [if_pos h3, if_pos h3]
      · rw [if_neg h3, if_neg h3, pr_base_]
        rfl
    · rw [if_neg h2, if_neg h2]
theorem ps_isBare_ (hT : Toks T) (hn : T[n]? = some t) : Ev (fun k => ps_isBare k (kS T n d)) (begins t) := by
  unfold ps_isBare begins
  refine Ev.bind (Ev.all (ps_token_ hn)) ?_
  by_cases h1 : t.Kind = 1
  · rw [if_pos h1]
    exact Ev.pos h1 Ev.ret
  · rw [if_neg h1]
    refine Ev.neg h1 (Ev.bind (ps_is_ hn (by decide)) (Ev.cast Ev.ret ?_))
    rw [hT.word hn (by decide)]
    by_cases h2 : t.Kind = 2
    · rw [if_pos h2]
      unfold bareK
      by_cases a0 : t.Text = [117, 110, 115, 105, 103, 110, 101, 100]
      · simp [h2, a0]
      by_cases a1 : t.Text = [105, 110, 116]
      · simp [h2, a1]
      by_cases a2 : t.Text = [104, 121, 112, 101, 114]
      · simp [h2, a2]
      by_cases a3 : t.Text = [102, 108, 111, 97, 116]
      · simp [h2, a3]
      by_cases a4 : t.Text = [100, 111, 117, 98, 108, 101]
      · simp [h2, a4]
      by_cases a5 : t.Text = [98, 111, 111, 108]
      · simp [h2, a5]
      · simp [h2, a0, a1, a2, a3, a4, a5]
    · rw [if_neg h2]
      simp [h2]
end Go.Proofs.YtnhifhlbelogcaaDoor
