/- The scanners' plain functions: a whole scan; the names' law. -/
import Derived.Test.YtpdpfiaediadgaaDoorLexS
set_option linter.unusedVariables false
namespace Go.Proofs.YtpdpfiaediadgaaDoor
open Go Go.Eng
/-- A step's facts. -/
def Nx.ok (m : List UInt8) : Nx → Prop
  | .bad e => e = 30 ∨ e = 31 ∨ e = 32 ∨ e = 33
  | .skip n => 1 ≤ n ∧ n ≤ m.length
  | .tok t n => 1 ≤ n ∧ n ≤ m.length ∧ t.Kind ≠ 0
theorem nextS_ok (m : List UInt8) (h0 : m ≠ []) : (nextS m).ok m := by
  obtain ⟨c, l, rfl⟩ : ∃ c l, m = c :: l := by cases m with | nil => exact absurd rfl h0 | cons c l => exact ⟨c, l, rfl⟩
  have hr := runLen_le (c :: l)
  have hl := runLen_le l
  have hll : (c :: l).length = l.length + 1 := rfl
  rw [nextS_cons]
  by_cases c1 : isBlank c = true
  · rw [if_pos c1]; exact ⟨Nat.le_refl _, by omega⟩
  rw [if_neg c1]
  by_cases c2 : (c :: l).take 2 = [47, 42]
  · have h2 : 2 ≤ (c :: l).length := by have := congrArg List.length c2; rw [List.length_take] at this; simp only [List.length_cons, List.length_nil] at this ⊢; omega
    rw [if_pos c2]
    by_cases c3 : Lib.index ((c :: l).drop 2) ends < 0
    · rw [if_pos c3]; exact .inr (.inr (.inr rfl))
    · rw [if_neg c3]
      have := index_in _ c3
      rw [List.length_drop] at this
      exact ⟨by omega, by omega⟩
  rw [if_neg c2]
  by_cases c3 : isLetter c = true
  · rw [if_pos c3]
    have hin : inRun c = true := by simp [inRun, c3]
    have h1 : 1 ≤ runLen (c :: l) := by rw [runLen_cons, if_pos hin]; omega
    split
    · exact ⟨h1, hr, show (2 : Int) ≠ 0 by decide⟩
    · split
      · exact .inr (.inr (.inl rfl))
      · exact ⟨h1, hr, show (1 : Int) ≠ 0 by decide⟩
  rw [if_neg c3]
  by_cases c4 : (isDigit c || minusDigit c l) = true
  · rw [if_pos c4]
    by_cases c5 : (numS (decide (c = 45)) (if c = 45 then l.take (runLen l) else (c :: l).take (1 + runLen l))).2 = true
    · rw [if_pos c5]
      exact ⟨by omega, by omega, show (3 : Int) ≠ 0 by decide⟩
    · rw [if_neg c5]
      exact .inr (.inl rfl)
  rw [if_neg c4]
  split
  · exact ⟨by omega, by omega, show (4 : Int) ≠ 0 by decide⟩
  · exact .inl rfl
def Token.put (t : Token) (a : Nat) : Token := ⟨t.Kind, t.Text, t.Number, (a : Int)⟩
def scanG : Nat → List UInt8 → Nat → List Token → List Token × Int × Int
  | 0, _, _, _ => ([], 0, 0)
  | d + 1, s, a, acc => if a < s.length then (match nextS (s.drop a) with
      | .bad e => ([], e, (a : Int))
      | .skip n => scanG d s (a + n) acc
      | .tok t n => scanG d s (a + n) (acc ++ [t.put a]))
    else (acc ++ [⟨5, [], 0, (s.length : Int)⟩], 0, 0)
def scanS (s : List UInt8) : List Token × Int × Int := if 16000 < s.length then ([], 34, 16000) else scanG (s.length + 1) s 0 []
theorem drop_ne {s : List UInt8} {a : Nat} (h : a < s.length) : s.drop a ≠ [] := by
  intro e; have := congrArg List.length e; rw [List.length_drop, List.length_nil] at this; omega
theorem lx_Scan_l (s : List UInt8) (hs : s.length ≤ 16000) : ∀ (d a : Nat) (acc : List Token), s.length < a + d → a ≤ s.length → acc.length ≤ a → Ev (fun k => lx_Scan.l1 k s acc (a : Int)) (scanG d s a acc) := by
  intro d
  induction d with
  | zero => intro a acc h1 h2; omega
  | succ d ih =>
    intro a acc h1 h2 h3
    refine Ev.step (g := fun k => lx_Scan.l1 (k + 1) s acc (a : Int)) ?_ (fun _ => rfl)
    simp only [lx_Scan.l1]
    rw [scanG]
    by_cases ha : a < s.length
    · rw [if_pos ha]
      refine Ev.pos (by omega) ?_
      refine Ev.bindc (cut_from (a := a) rfl (by omega)) ?_
      refine Ev.bind (lx_next_ _ (drop_ne ha) (by rw [List.length_drop]; omega)) ?_
      have hok := nextS_ok _ (drop_ne ha)
      generalize nextS (s.drop a) = x at hok ⊢
      cases x with
      | bad e =>
        have he : e ≠ 0 := by rcases hok with h | h | h | h <;> subst h <;> decide
        exact Ev.neg he Ev.ret
      | skip n =>
        obtain ⟨g1, g2⟩ := hok
        rw [List.length_drop] at g2
        refine Ev.pos rfl (Ev.pos rfl ?_)
        have e : w64 ((a : Int) + (Nx.skip n).out.2.1) = ((a + n : Nat) : Int) := by show w64 ((a : Int) + (n : Int)) = _; rw [w64_of (by omega) (by omega)]; rfl
        rw [e]
        exact ih (a + n) acc (by omega) (by omega) (by omega)
      | tok t n =>
        obtain ⟨g1, g2, g3⟩ := hok
        rw [List.length_drop] at g2
        refine Ev.pos rfl (Ev.neg g3 ?_)
        refine Ev.bindc (cat_at (by simp; omega)) ?_
        have e : w64 ((a : Int) + (Nx.tok t n).out.2.1) = ((a + n : Nat) : Int) := by show w64 ((a : Int) + (n : Int)) = _; rw [w64_of (by omega) (by omega)]; rfl
        rw [e]
        exact ih (a + n) (acc ++ [t.put a]) (by omega) (by omega) (by simp; omega)
    · rw [if_neg ha]
      refine Ev.neg (by omega) ?_
      exact Ev.bindc (cat_at (by simp; omega)) Ev.ret
theorem lx_Scan_ (s : List UInt8) : Ev (fun k => lx_Scan k s) (scanS s) := by
  unfold lx_Scan scanS
  by_cases h : 16000 < s.length
  · rw [if_pos h]; exact Ev.pos (by omega) Ev.ret
  · rw [if_neg h]
    refine Ev.neg (by omega) ?_
    exact lx_Scan_l s (by omega) (s.length + 1) 0 [] (by omega) (by omega) (Nat.le_refl _)
theorem lw_same_ (A : List Token) (hA : A.length ≤ 16001) : Ev (fun k => lw_same k A A) true := by
  have key : ∀ (d j : Nat), A.length - j = d → j ≤ A.length → Ev (fun k => lw_same.l1 k A A (j : Int)) true := by
    intro d
    induction d with
    | zero =>
      intro j hd hj
      refine Ev.step (g := fun k => lw_same.l1 (k + 1) A A (j : Int)) ?_ (fun _ => rfl)
      simp only [lw_same.l1]
      exact Ev.neg (by omega) Ev.ret
    | succ d ih =>
      intro j hd hj
      have hlt : j < A.length := by omega
      refine Ev.step (g := fun k => lw_same.l1 (k + 1) A A (j : Int)) ?_ (fun _ => rfl)
      simp only [lw_same.l1]
      refine Ev.pos (by omega) ?_
      refine Ev.bindc (idx_at rfl hlt) ?_
      refine Ev.bindc (idx_at rfl hlt) ?_
      refine Ev.pos rfl ?_
      rw [w64_succ (by omega)]
      exact ih (j + 1) (by omega) (by omega)
  unfold lw_same
  exact Ev.pos rfl (key _ 0 rfl (Nat.zero_le _))
theorem scan1 : scanS [115, 116, 114, 117, 99, 116, 32, 97, 45, 53, 32, 123] = ([(⟨2, ([115, 116, 114, 117, 99, 116] : List UInt8), 0, 0⟩ : Token), (⟨1, ([97] : List UInt8), 0, 7⟩ : Token), (⟨3, ([] : List UInt8), -5, 8⟩ : Token), (⟨4, ([123] : List UInt8), 0, 11⟩ : Token), (⟨5, ([] : List UInt8), 0, 12⟩ : Token)], 0, 0) := by decide +kernel
theorem scan2 : scanS [97, 32, 47, 42, 32, 98] = ([], 33, 2) := by decide +kernel
theorem known_ : Ev (fun k => lw_known k) true := by
  unfold lw_known
  refine Ev.bind ((lx_Scan_ _).cast scan1) ?_
  refine Ev.bind (lw_same_ _ (by decide)) ?_
  refine Ev.bind ((lx_Scan_ _).cast scan2) ?_
  refine Ev.pos rfl (Ev.pos rfl (Ev.pos rfl (Ev.pos rfl (Ev.pos rfl ?_))))
  refine Ev.bind ((lx_IsWord_ _).cast (r' := true) (by decide +kernel)) ?_
  refine Ev.pos rfl ?_
  refine Ev.bind ((lx_IsName_ _ (big_max (by decide))).cast (r' := true) (by decide +kernel)) ?_
  refine Ev.pos rfl ?_
  refine Ev.bind ((lx_IsName_ _ (big_max (by decide))).cast (r' := false) (by decide +kernel)) ?_
  exact Ev.ret
theorem names_true (s : List UInt8) (hs : s.length ≤ 140737488355328) : ∃ k, law_Names k s = some true := by
  refine Ev.get ?_
  unfold law_Names
  refine Ev.bind known_ (Ev.pos rfl ?_)
  refine Ev.bind (lx_IsWord_ s) ?_
  refine Ev.bind (rf_IsWord_ s hs) ?_
  refine Ev.pos (by simp) ?_
  refine Ev.bind (lx_IsName_ s (big_max hs)) ?_
  refine Ev.bind (rf_IsName_ s hs) ?_
  exact Ev.ret.cast (by simp)
end Go.Proofs.YtpdpfiaediadgaaDoor
