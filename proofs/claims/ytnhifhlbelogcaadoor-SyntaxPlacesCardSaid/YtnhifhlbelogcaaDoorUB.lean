/- Each function of the program's parser sees no more than the tokens up to where it stands: the small ones. -/
import Derived.Test.YtnhifhlbelogcaaDoorUA
set_option linter.unusedVariables false
set_option linter.unusedSimpArgs false
set_option maxHeartbeats 1000000
namespace Go.Proofs.YtnhifhlbelogcaaDoor
open Go Go.Eng
variable {T U : List Token} {K : Nat}
theorem up_lp {ρ : Type} [HasSt ρ] (h2 : Two T U K) {n : Nat} {d : Int} (hn : n < T.length) {F : ParK → Option ρ} (h : ∀ (n : Nat) (d : Int), LP T U K n (F ⟨T, (n : Nat), d⟩) (F ⟨U, (n : Nat), d⟩)) : LP T U K n (F ⟨T, w64 ((n : Int) + 1), d⟩) (F ⟨U, w64 ((n : Int) + 1), d⟩) := by
  rw [w64_up h2 hn]
  exact LP.up h2 hn (h _ _)
theorem name_lp (h2 : Two T U K) (k : Nat) : ∀ (n : Nat) (d : Int) (a1 : Int), LP T U K n (ps_name k (⟨T, (n : Nat), d⟩ : ParK) a1) (ps_name k (⟨U, (n : Nat), d⟩ : ParK) a1) := by
  intros
  unfold ps_name
  repeat' first | exact LP.ret3 noF | exact LP.ret3 (by assumption) | exact LP.ret4 noF | exact LP.ret4 (by assumption) | refine LP.ite (fun _ => ?_) (fun _ => ?_) | refine LP.bind3 (kind_lp h2 _ _) (fun _ _ _ _ _ _ _ => ?_) | refine LP.pure (fun _ => ?_)
theorem number_lp (h2 : Two T U K) (k : Nat) : ∀ (n : Nat) (d : Int), LP T U K n (ps_number k (⟨T, (n : Nat), d⟩ : ParK)) (ps_number k (⟨U, (n : Nat), d⟩ : ParK)) := by
  intros
  unfold ps_number
  repeat' first | exact LP.ret3 noF | exact LP.ret3 (by assumption) | exact LP.ret4 noF | exact LP.ret4 (by assumption) | refine LP.ite (fun _ => ?_) (fun _ => ?_) | refine LP.bind3 (kind_lp h2 _ _) (fun _ _ _ _ _ _ _ => ?_) | refine LP.pure (fun _ => ?_)
theorem wordNumber_lp (h2 : Two T U K) (k : Nat) : ∀ (n : Nat) (d : Int), LP T U K n (ps_wordNumber k (⟨T, (n : Nat), d⟩ : ParK)) (ps_wordNumber k (⟨U, (n : Nat), d⟩ : ParK)) := by
  intros
  unfold ps_wordNumber
  repeat' first | exact LP.ret3 noF | exact LP.ret3 (by assumption) | exact LP.ret4 noF | exact LP.ret4 (by assumption) | refine LP.ite (fun _ => ?_) (fun _ => ?_) | refine LP.read _ (token_rd h2 _) (fun _ _ _ => ?_) | refine LP.read _ (give40_rd h2 _) (fun _ _ _ => ?_) | refine LP.bind3 (number_lp h2 _ _ _) (fun _ _ _ _ _ _ _ => ?_) | exact number_lp h2 _ _ _ | refine LP.pure (fun _ => ?_)
theorem value_lp (h2 : Two T U K) (k : Nat) : ∀ (n : Nat) (d : Int), LP T U K n (ps_value k (⟨T, (n : Nat), d⟩ : ParK)) (ps_value k (⟨U, (n : Nat), d⟩ : ParK)) := by
  intros
  unfold ps_value
  repeat' first | exact LP.ret3 noF | exact LP.ret3 (by assumption) | exact LP.ret4 noF | exact LP.ret4 (by assumption) | refine LP.ite (fun _ => ?_) (fun _ => ?_) | refine LP.read _ (token_rd h2 _) (fun _ _ _ => ?_) | refine LP.bind3 (name_lp h2 _ _ _ _) (fun _ _ _ _ _ _ _ => ?_) | refine LP.bind3 (up_lp h2 (by assumption) (F := fun s => ps_name _ s _) (fun n d => name_lp h2 _ _ _ _)) (fun _ _ _ _ _ _ _ => ?_) | exact name_lp h2 _ _ _ _ | refine LP.bind3 (number_lp h2 _ _ _) (fun _ _ _ _ _ _ _ => ?_) | exact number_lp h2 _ _ _ | refine LP.pure (fun _ => ?_)
theorem bare_lp (h2 : Two T U K) (k : Nat) : ∀ (n : Nat) (d : Int), LP T U K n (ps_bare k (⟨T, (n : Nat), d⟩ : ParK)) (ps_bare k (⟨U, (n : Nat), d⟩ : ParK)) := by
  intros
  unfold ps_bare
  repeat' first | exact LP.ret3 noF | exact LP.ret3 (by assumption) | exact LP.ret4 noF | exact LP.ret4 (by assumption) | refine LP.ite (fun _ => ?_) (fun _ => ?_) | refine LP.read _ (token_rd h2 _) (fun _ _ _ => ?_) | refine LP.bind3 (name_lp h2 _ _ _ _) (fun _ _ _ _ _ _ _ => ?_) | refine LP.bind3 (up_lp h2 (by assumption) (F := fun s => ps_name _ s _) (fun n d => name_lp h2 _ _ _ _)) (fun _ _ _ _ _ _ _ => ?_) | exact name_lp h2 _ _ _ _ | refine LP.bindm (may_lp h2 _ _) (fun _ _ _ _ _ => ?_) | refine LP.bind3 (want_lp h2 _ _) (fun _ _ _ _ _ _ _ => ?_) | refine LP.read _ (give40_rd h2 _) (fun _ _ _ => ?_) | refine LP.pure (fun _ => ?_)
theorem members_l1_lp' (h2 : Two T U K) : ∀ k : Nat, ∀ (n : Nat) (d : Int) (a1 : List Tree), LP T U K n (ps_members.l1 k (⟨T, (n : Nat), d⟩ : ParK) a1) (ps_members.l1 k (⟨U, (n : Nat), d⟩ : ParK) a1) := by
  intro k
  induction k with
  | zero => intros; simp only [ps_members.l1]; exact LP.none
  | succ k i0 =>
    intros
    simp only [ps_members.l1]
    repeat' first | exact LP.ret3 noF | exact LP.ret3 (by assumption) | exact LP.ret4 noF | exact LP.ret4 (by assumption) | refine LP.ite (fun _ => ?_) (fun _ => ?_) | refine LP.bind3 (name_lp h2 _ _ _ _) (fun _ _ _ _ _ _ _ => ?_) | refine LP.bind3 (up_lp h2 (by assumption) (F := fun s => ps_name _ s _) (fun n d => name_lp h2 _ _ _ _)) (fun _ _ _ _ _ _ _ => ?_) | exact name_lp h2 _ _ _ _ | refine LP.bind3 (want_lp h2 _ _) (fun _ _ _ _ _ _ _ => ?_) | refine LP.bind3 (value_lp h2 _ _ _) (fun _ _ _ _ _ _ _ => ?_) | exact value_lp h2 _ _ _ | refine LP.bindm (may_lp h2 _ _) (fun _ _ _ _ _ => ?_) | refine LP.read _ (is_rd h2 _ _) (fun _ _ _ => ?_) | refine LP.read _ (more_rd h2 _ (by assumption) (by assumption)) (fun _ _ _ => ?_) | refine LP.read _ (more_rd h2 _ (by assumption) (by intro _; solve_by_elim)) (fun _ _ _ => ?_) | refine LP.bind3 (i0 _ _ _) (fun _ _ _ _ _ _ _ => ?_) | exact i0 _ _ _ | refine LP.pure (fun _ => ?_)
theorem members_l1_lp (h2 : Two T U K) (k : Nat) : ∀ (n : Nat) (d : Int) (a1 : List Tree), LP T U K n (ps_members.l1 k (⟨T, (n : Nat), d⟩ : ParK) a1) (ps_members.l1 k (⟨U, (n : Nat), d⟩ : ParK) a1) := members_l1_lp' h2 k
theorem members_lp (h2 : Two T U K) (k : Nat) : ∀ (n : Nat) (d : Int), LP T U K n (ps_members k (⟨T, (n : Nat), d⟩ : ParK)) (ps_members k (⟨U, (n : Nat), d⟩ : ParK)) := by
  intros
  unfold ps_members
  repeat' first | exact LP.ret3 noF | exact LP.ret3 (by assumption) | exact LP.ret4 noF | exact LP.ret4 (by assumption) | refine LP.ite (fun _ => ?_) (fun _ => ?_) | refine LP.bind3 (want_lp h2 _ _) (fun _ _ _ _ _ _ _ => ?_) | refine LP.bind3 (members_l1_lp h2 _ _ _ _) (fun _ _ _ _ _ _ _ => ?_) | exact members_l1_lp h2 _ _ _ _ | refine LP.pure (fun _ => ?_)
theorem listed_j1_lp (h2 : Two T U K) (k : Nat) : ∀ (n : Nat) (d : Int) (a0 : Tree) (x1 : Option Value) (v1 : Int) (a2 : List Tree), LP T U K n (ps_listed.j1 k a0 (x1, v1, (⟨T, (n : Nat), d⟩ : ParK)) a2) (ps_listed.j1 k a0 (x1, v1, (⟨U, (n : Nat), d⟩ : ParK)) a2) := by
  intros
  unfold ps_listed.j1
  repeat' first | exact LP.ret3 noF | exact LP.ret3 (by assumption) | exact LP.ret4 noF | exact LP.ret4 (by assumption) | refine LP.ite (fun _ => ?_) (fun _ => ?_) | refine LP.read _ (is_rd h2 _ _) (fun _ _ _ => ?_) | refine LP.bind3 (want_lp h2 _ _) (fun _ _ _ _ _ _ _ => ?_) | refine LP.bind3 (value_lp h2 _ _ _) (fun _ _ _ _ _ _ _ => ?_) | exact value_lp h2 _ _ _ | refine LP.pure (fun _ => ?_)
theorem listed_lp (h2 : Two T U K) (k : Nat) : ∀ (n : Nat) (d : Int) (a1 : Tree) (a2 : Tree), LP T U K n (ps_listed k (⟨T, (n : Nat), d⟩ : ParK) a1 a2) (ps_listed k (⟨U, (n : Nat), d⟩ : ParK) a1 a2) := by
  intros
  unfold ps_listed
  repeat' first | exact LP.ret3 noF | exact LP.ret3 (by assumption) | exact LP.ret4 noF | exact LP.ret4 (by assumption) | refine LP.ite (fun _ => ?_) (fun _ => ?_) | refine LP.bind3 (want_lp h2 _ _) (fun _ _ _ _ _ _ _ => ?_) | refine LP.bind3 (listed_j1_lp h2 _ _ _ _ _ _ _) (fun _ _ _ _ _ _ _ => ?_) | exact listed_j1_lp h2 _ _ _ _ _ _ _ | refine LP.pure (fun _ => ?_)
theorem fixed_lp (h2 : Two T U K) (k : Nat) : ∀ (n : Nat) (d : Int) (a1 : Tree) (a2 : Tree), LP T U K n (ps_fixed k (⟨T, (n : Nat), d⟩ : ParK) a1 a2) (ps_fixed k (⟨U, (n : Nat), d⟩ : ParK) a1 a2) := by
  intros
  unfold ps_fixed
  repeat' first | exact LP.ret3 noF | exact LP.ret3 (by assumption) | exact LP.ret4 noF | exact LP.ret4 (by assumption) | refine LP.ite (fun _ => ?_) (fun _ => ?_) | refine LP.bind3 (want_lp h2 _ _) (fun _ _ _ _ _ _ _ => ?_) | refine LP.bind3 (value_lp h2 _ _ _) (fun _ _ _ _ _ _ _ => ?_) | exact value_lp h2 _ _ _ | refine LP.bind3 (fixed_j1_lp h2 _ _ _ _ _) (fun _ _ _ _ _ _ _ => ?_) | exact fixed_j1_lp h2 _ _ _ _ _ | refine LP.pure (fun _ => ?_)
end Go.Proofs.YtnhifhlbelogcaaDoor
