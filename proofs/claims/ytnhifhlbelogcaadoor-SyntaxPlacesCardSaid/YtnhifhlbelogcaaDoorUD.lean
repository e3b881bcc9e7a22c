/- Likewise: procedures to sources. -/
import Derived.Test.YtnhifhlbelogcaaDoorUC
set_option linter.unusedVariables false
set_option linter.unusedSimpArgs false
set_option maxHeartbeats 1000000
namespace Go.Proofs.YtnhifhlbelogcaaDoor
open Go Go.Eng
variable {T U : List Token} {K : Nat}
theorem arguments_l1_lp' (h2 : Two T U K) : ∀ k : Nat, ∀ (n : Nat) (d : Int) (a1 : List Tree), LP T U K n (ps_arguments.l1 k (⟨T, (n : Nat), d⟩ : ParK) a1) (ps_arguments.l1 k (⟨U, (n : Nat), d⟩ : ParK) a1) := by
  intro k
  induction k with
  | zero => intros; simp only [ps_arguments.l1]; exact LP.none
  | succ k i0 =>
    intros
    simp only [ps_arguments.l1]
    repeat' first | exact LP.ret3 noF | exact LP.ret3 (by assumption) | exact LP.ret4 noF | exact LP.ret4 (by assumption) | refine LP.ite (fun _ => ?_) (fun _ => ?_) | refine LP.read _ (is_rd h2 _ _) (fun _ _ _ => ?_) | refine LP.read _ (more_rd h2 _ (by assumption) (by assumption)) (fun _ _ _ => ?_) | refine LP.read _ (more_rd h2 _ (by assumption) (by intro _; solve_by_elim)) (fun _ _ _ => ?_) | refine LP.bind3 (want_lp h2 _ _) (fun _ _ _ _ _ _ _ => ?_) | refine LP.bind3 (bare_lp h2 _ _ _) (fun _ _ _ _ _ _ _ => ?_) | exact bare_lp h2 _ _ _ | refine LP.bind3 (i0 _ _ _) (fun _ _ _ _ _ _ _ => ?_) | exact i0 _ _ _ | refine LP.pure (fun _ => ?_)
theorem arguments_l1_lp (h2 : Two T U K) (k : Nat) : ∀ (n : Nat) (d : Int) (a1 : List Tree), LP T U K n (ps_arguments.l1 k (⟨T, (n : Nat), d⟩ : ParK) a1) (ps_arguments.l1 k (⟨U, (n : Nat), d⟩ : ParK) a1) := arguments_l1_lp' h2 k
theorem arguments_lp (h2 : Two T U K) (k : Nat) : ∀ (n : Nat) (d : Int), LP T U K n (ps_arguments k (⟨T, (n : Nat), d⟩ : ParK)) (ps_arguments k (⟨U, (n : Nat), d⟩ : ParK)) := by
  intros
  unfold ps_arguments
  repeat' first | exact LP.ret3 noF | exact LP.ret3 (by assumption) | exact LP.ret4 noF | exact LP.ret4 (by assumption) | refine LP.ite (fun _ => ?_) (fun _ => ?_) | refine LP.read _ (token_rd h2 _) (fun _ _ _ => ?_) | refine LP.bindm (may_lp h2 _ _) (fun _ _ _ _ _ => ?_) | refine LP.bind3 (bare_lp h2 _ _ _) (fun _ _ _ _ _ _ _ => ?_) | exact bare_lp h2 _ _ _ | refine LP.bind3 (arguments_l1_lp h2 _ _ _ _) (fun _ _ _ _ _ _ _ => ?_) | exact arguments_l1_lp h2 _ _ _ _ | refine LP.pure (fun _ => ?_)
theorem procedure_j1_lp (h2 : Two T U K) (k : Nat) : ∀ (n : Nat) (d : Int) (a1 : Int) (a2 : List UInt8) (a3 : Int) (a4 : Int) (a5 : List Tree), LP T U K n (ps_procedure.j1 k (⟨T, (n : Nat), d⟩ : ParK) a1 a2 a3 a4 a5) (ps_procedure.j1 k (⟨U, (n : Nat), d⟩ : ParK) a1 a2 a3 a4 a5) := by
  intros
  unfold ps_procedure.j1
  repeat' first | exact LP.ret3 noF | exact LP.ret3 (by assumption) | exact LP.ret4 noF | exact LP.ret4 (by assumption) | refine LP.ite (fun _ => ?_) (fun _ => ?_) | refine LP.bind3 (name_lp h2 _ _ _ _) (fun _ _ _ _ _ _ _ => ?_) | refine LP.bind3 (up_lp h2 (by assumption) (F := fun s => ps_name _ s _) (fun n d => name_lp h2 _ _ _ _)) (fun _ _ _ _ _ _ _ => ?_) | exact name_lp h2 _ _ _ _ | refine LP.bind3 (want_lp h2 _ _) (fun _ _ _ _ _ _ _ => ?_) | refine LP.bind3 (arguments_lp h2 _ _ _) (fun _ _ _ _ _ _ _ => ?_) | exact arguments_lp h2 _ _ _ | refine LP.bind3 (wordNumber_lp h2 _ _ _) (fun _ _ _ _ _ _ _ => ?_) | exact wordNumber_lp h2 _ _ _ | refine LP.pure (fun _ => ?_)
theorem procedure_lp (h2 : Two T U K) (k : Nat) : ∀ (n : Nat) (d : Int), LP T U K n (ps_procedure k (⟨T, (n : Nat), d⟩ : ParK)) (ps_procedure k (⟨U, (n : Nat), d⟩ : ParK)) := by
  intros
  unfold ps_procedure
  repeat' first | exact LP.ret3 noF | exact LP.ret3 (by assumption) | exact LP.ret4 noF | exact LP.ret4 (by assumption) | refine LP.ite (fun _ => ?_) (fun _ => ?_) | refine LP.read _ (token_rd h2 _) (fun _ _ _ => ?_) | refine LP.bindm (may_lp h2 _ _) (fun _ _ _ _ _ => ?_) | refine LP.bind3 (procedure_j1_lp h2 _ _ _ _ _ _ _ _) (fun _ _ _ _ _ _ _ => ?_) | exact procedure_j1_lp h2 _ _ _ _ _ _ _ _ | refine LP.bind3 (bare_lp h2 _ _ _) (fun _ _ _ _ _ _ _ => ?_) | exact bare_lp h2 _ _ _ | refine LP.pure (fun _ => ?_)
theorem version_j1_lp (h2 : Two T U K) (k : Nat) : ∀ (n : Nat) (d : Int) (x0 : Option Value) (v0 : Tree) (s0 u0 : ParK) (a2 : List Tree), LP T U K n (ps_version.j1 k (x0, v0, s0) (⟨T, (n : Nat), d⟩ : ParK) a2) (ps_version.j1 k (x0, v0, u0) (⟨U, (n : Nat), d⟩ : ParK) a2) := by
  intros
  unfold ps_version.j1
  repeat' first | exact LP.ret3 noF | exact LP.ret3 (by assumption) | exact LP.ret4 noF | exact LP.ret4 (by assumption) | refine LP.ite (fun _ => ?_) (fun _ => ?_) | refine LP.bind3 (want_lp h2 _ _) (fun _ _ _ _ _ _ _ => ?_) | refine LP.bind3 (wordNumber_lp h2 _ _ _) (fun _ _ _ _ _ _ _ => ?_) | exact wordNumber_lp h2 _ _ _ | refine LP.pure (fun _ => ?_)
theorem versions_lp (h2 : Two T U K) : ∀ k : Nat, (∀ (n : Nat) (d : Int) (x0 : Option Value) (v0 : Tree) (s0 u0 : ParK) (a1 : List Tree), LP T U K n (ps_version.j2 k (x0, v0, s0) a1 (⟨T, (n : Nat), d⟩ : ParK)) (ps_version.j2 k (x0, v0, u0) a1 (⟨U, (n : Nat), d⟩ : ParK))) ∧
    (∀ (n : Nat) (d : Int) (x0 : Option Value) (v0 : Tree) (s0 u0 : ParK) (a2 : List Tree), LP T U K n (ps_version.l1 k (x0, v0, s0) (⟨T, (n : Nat), d⟩ : ParK) a2) (ps_version.l1 k (x0, v0, u0) (⟨U, (n : Nat), d⟩ : ParK) a2)) := by
  intro k
  induction k with
  | zero =>
    refine ⟨?_, ?_⟩ <;> intros <;> simp only [ps_version.j2, ps_version.l1] <;> exact LP.none
  | succ k ih =>
    obtain ⟨i0, i1⟩ := ih
    refine ⟨?_, ?_⟩
    · intros
      simp only [ps_version.j2]
      repeat' first | exact LP.ret3 noF | exact LP.ret3 (by assumption) | exact LP.ret4 noF | exact LP.ret4 (by assumption) | refine LP.ite (fun _ => ?_) (fun _ => ?_) | refine LP.read _ (isBare_rd h2 _) (fun _ _ _ => ?_) | refine LP.read _ (more_rd h2 _ (by assumption) (by assumption)) (fun _ _ _ => ?_) | refine LP.read _ (more_rd h2 _ (by assumption) (by intro _; solve_by_elim)) (fun _ _ _ => ?_) | refine LP.bind3 (procedure_lp h2 _ _ _) (fun _ _ _ _ _ _ _ => ?_) | exact procedure_lp h2 _ _ _ | refine LP.bind3 (i1 _ _ _ _ _ _ _) (fun _ _ _ _ _ _ _ => ?_) | exact i1 _ _ _ _ _ _ _ | refine LP.read _ (is_rd h2 _ _) (fun _ _ _ => ?_) | refine LP.pure (fun _ => ?_)
    · intros
      simp only [ps_version.l1]
      repeat' first | exact LP.ret3 noF | exact LP.ret3 (by assumption) | exact LP.ret4 noF | exact LP.ret4 (by assumption) | refine LP.ite (fun _ => ?_) (fun _ => ?_) | refine LP.bind3 (i0 _ _ _ _ _ _ _) (fun _ _ _ _ _ _ _ => ?_) | exact i0 _ _ _ _ _ _ _ | refine LP.bindm (may_lp h2 _ _) (fun _ _ _ _ _ => ?_) | refine LP.bind3 (version_j1_lp h2 _ _ _ _ _ _ _ _) (fun _ _ _ _ _ _ _ => ?_) | exact version_j1_lp h2 _ _ _ _ _ _ _ _ | refine LP.pure (fun _ => ?_)
theorem version_l1_lp (h2 : Two T U K) (k : Nat) : ∀ (n : Nat) (d : Int) (x0 : Option Value) (v0 : Tree) (s0 u0 : ParK) (a2 : List Tree), LP T U K n (ps_version.l1 k (x0, v0, s0) (⟨T, (n : Nat), d⟩ : ParK) a2) (ps_version.l1 k (x0, v0, u0) (⟨U, (n : Nat), d⟩ : ParK) a2) := (versions_lp h2 k).2
theorem version_lp (h2 : Two T U K) (k : Nat) : ∀ (n : Nat) (d : Int), LP T U K n (ps_version k (⟨T, (n : Nat), d⟩ : ParK)) (ps_version k (⟨U, (n : Nat), d⟩ : ParK)) := by
  intros
  unfold ps_version
  repeat' first | exact LP.ret3 noF | exact LP.ret3 (by assumption) | exact LP.ret4 noF | exact LP.ret4 (by assumption) | refine LP.ite (fun _ => ?_) (fun _ => ?_) | refine LP.bind3 (want_lp h2 _ _) (fun _ _ _ _ _ _ _ => ?_) | refine LP.bind3 (name_lp h2 _ _ _ _) (fun _ _ _ _ _ _ _ => ?_) | refine LP.bind3 (up_lp h2 (by assumption) (F := fun s => ps_name _ s _) (fun n d => name_lp h2 _ _ _ _)) (fun _ _ _ _ _ _ _ => ?_) | exact name_lp h2 _ _ _ _ | refine LP.bind3 (version_l1_lp h2 _ _ _ _ _ _ _ _) (fun _ _ _ _ _ _ _ => ?_) | exact version_l1_lp h2 _ _ _ _ _ _ _ _ | refine LP.pure (fun _ => ?_)
theorem program_j1_lp (h2 : Two T U K) (k : Nat) : ∀ (n : Nat) (d : Int) (x0 : Option Value) (v0 : Tree) (s0 u0 : ParK) (a2 : List Tree), LP T U K n (ps_program.j1 k (x0, v0, s0) (⟨T, (n : Nat), d⟩ : ParK) a2) (ps_program.j1 k (x0, v0, u0) (⟨U, (n : Nat), d⟩ : ParK) a2) := by
  intros
  unfold ps_program.j1
  repeat' first | exact LP.ret3 noF | exact LP.ret3 (by assumption) | exact LP.ret4 noF | exact LP.ret4 (by assumption) | refine LP.ite (fun _ => ?_) (fun _ => ?_) | refine LP.bind3 (want_lp h2 _ _) (fun _ _ _ _ _ _ _ => ?_) | refine LP.bind3 (wordNumber_lp h2 _ _ _) (fun _ _ _ _ _ _ _ => ?_) | exact wordNumber_lp h2 _ _ _ | refine LP.pure (fun _ => ?_)
theorem programs_lp (h2 : Two T U K) : ∀ k : Nat, (∀ (n : Nat) (d : Int) (x0 : Option Value) (v0 : Tree) (s0 u0 : ParK) (a1 : List Tree), LP T U K n (ps_program.j2 k (x0, v0, s0) a1 (⟨T, (n : Nat), d⟩ : ParK)) (ps_program.j2 k (x0, v0, u0) a1 (⟨U, (n : Nat), d⟩ : ParK))) ∧
    (∀ (n : Nat) (d : Int) (x0 : Option Value) (v0 : Tree) (s0 u0 : ParK) (a2 : List Tree), LP T U K n (ps_program.l1 k (x0, v0, s0) (⟨T, (n : Nat), d⟩ : ParK) a2) (ps_program.l1 k (x0, v0, u0) (⟨U, (n : Nat), d⟩ : ParK) a2)) := by
  intro k
  induction k with
  | zero =>
    refine ⟨?_, ?_⟩ <;> intros <;> simp only [ps_program.j2, ps_program.l1] <;> exact LP.none
  | succ k ih =>
    obtain ⟨i0, i1⟩ := ih
    refine ⟨?_, ?_⟩
    · intros
      simp only [ps_program.j2]
      repeat' first | exact LP.ret3 noF | exact LP.ret3 (by assumption) | exact LP.ret4 noF | exact LP.ret4 (by assumption) | refine LP.ite (fun _ => ?_) (fun _ => ?_) | refine LP.read _ (is_rd h2 _ _) (fun _ _ _ => ?_) | refine LP.read _ (more_rd h2 _ (by assumption) (by assumption)) (fun _ _ _ => ?_) | refine LP.read _ (more_rd h2 _ (by assumption) (by intro _; solve_by_elim)) (fun _ _ _ => ?_) | refine LP.bind3 (version_lp h2 _ _ _) (fun _ _ _ _ _ _ _ => ?_) | exact version_lp h2 _ _ _ | refine LP.bind3 (i1 _ _ _ _ _ _ _) (fun _ _ _ _ _ _ _ => ?_) | exact i1 _ _ _ _ _ _ _ | refine LP.pure (fun _ => ?_)
    · intros
      simp only [ps_program.l1]
      repeat' first | exact LP.ret3 noF | exact LP.ret3 (by assumption) | exact LP.ret4 noF | exact LP.ret4 (by assumption) | refine LP.ite (fun _ => ?_) (fun _ => ?_) | refine LP.bind3 (i0 _ _ _ _ _ _ _) (fun _ _ _ _ _ _ _ => ?_) | exact i0 _ _ _ _ _ _ _ | refine LP.bindm (may_lp h2 _ _) (fun _ _ _ _ _ => ?_) | refine LP.bind3 (program_j1_lp h2 _ _ _ _ _ _ _ _) (fun _ _ _ _ _ _ _ => ?_) | exact program_j1_lp h2 _ _ _ _ _ _ _ _ | refine LP.pure (fun _ => ?_)
theorem program_l1_lp (h2 : Two T U K) (k : Nat) : ∀ (n : Nat) (d : Int) (x0 : Option Value) (v0 : Tree) (s0 u0 : ParK) (a2 : List Tree), LP T U K n (ps_program.l1 k (x0, v0, s0) (⟨T, (n : Nat), d⟩ : ParK) a2) (ps_program.l1 k (x0, v0, u0) (⟨U, (n : Nat), d⟩ : ParK) a2) := (programs_lp h2 k).2
theorem program_lp (h2 : Two T U K) (k : Nat) : ∀ (n : Nat) (d : Int), LP T U K n (ps_program k (⟨T, (n : Nat), d⟩ : ParK)) (ps_program k (⟨U, (n : Nat), d⟩ : ParK)) := by
  intros
  unfold ps_program
  repeat' first | exact LP.ret3 noF | exact LP.ret3 (by assumption) | exact LP.ret4 noF | exact LP.ret4 (by assumption) | refine LP.ite (fun _ => ?_) (fun _ => ?_) | refine LP.bind3 (name_lp h2 _ _ _ _) (fun _ _ _ _ _ _ _ => ?_) | refine LP.bind3 (up_lp h2 (by assumption) (F := fun s => ps_name _ s _) (fun n d => name_lp h2 _ _ _ _)) (fun _ _ _ _ _ _ _ => ?_) | exact name_lp h2 _ _ _ _ | refine LP.bind3 (want_lp h2 _ _) (fun _ _ _ _ _ _ _ => ?_) | refine LP.bind3 (program_l1_lp h2 _ _ _ _ _ _ _ _) (fun _ _ _ _ _ _ _ => ?_) | exact program_l1_lp h2 _ _ _ _ _ _ _ _ | refine LP.pure (fun _ => ?_)
theorem definition_j1_lp (h2 : Two T U K) (k : Nat) : ∀ (n : Nat) (d : Int) (a0 : Token) (b1 : Bool), LP T U K n (ps_definition.j1 k a0 (b1, (⟨T, (n : Nat), d⟩ : ParK))) (ps_definition.j1 k a0 (b1, (⟨U, (n : Nat), d⟩ : ParK))) := by
  intros
  unfold ps_definition.j1
  repeat' first | exact LP.ret3 noF | exact LP.ret3 (by assumption) | exact LP.ret4 noF | exact LP.ret4 (by assumption) | refine LP.ite (fun _ => ?_) (fun _ => ?_) | refine LP.bind3 (declaration_lp h2 _ _ _) (fun _ _ _ _ _ _ _ => ?_) | exact declaration_lp h2 _ _ _ | refine LP.bind3 (want_lp h2 _ _) (fun _ _ _ _ _ _ _ => ?_) | refine LP.pure (fun _ => ?_)
theorem definition_lp (h2 : Two T U K) (k : Nat) : ∀ (n : Nat) (d : Int), LP T U K n (ps_definition k (⟨T, (n : Nat), d⟩ : ParK)) (ps_definition k (⟨U, (n : Nat), d⟩ : ParK)) := by
  intros
  unfold ps_definition
  repeat' first | exact LP.ret3 noF | exact LP.ret3 (by assumption) | exact LP.ret4 noF | exact LP.ret4 (by assumption) | refine LP.ite (fun _ => ?_) (fun _ => ?_) | refine LP.read _ (token_rd h2 _) (fun _ _ _ => ?_) | refine LP.bindm (may_lp h2 _ _) (fun _ _ _ _ _ => ?_) | refine LP.bind3 (name_lp h2 _ _ _ _) (fun _ _ _ _ _ _ _ => ?_) | refine LP.bind3 (up_lp h2 (by assumption) (F := fun s => ps_name _ s _) (fun n d => name_lp h2 _ _ _ _)) (fun _ _ _ _ _ _ _ => ?_) | exact name_lp h2 _ _ _ _ | refine LP.bind3 (want_lp h2 _ _) (fun _ _ _ _ _ _ _ => ?_) | refine LP.bind3 (number_lp h2 _ _ _) (fun _ _ _ _ _ _ _ => ?_) | exact number_lp h2 _ _ _ | refine LP.read _ (is_rd h2 _ _) (fun _ _ _ => ?_) | refine LP.read _ (give40_rd h2 _) (fun _ _ _ => ?_) | refine LP.bind3 (definition_j1_lp h2 _ _ _ _ _) (fun _ _ _ _ _ _ _ => ?_) | exact definition_j1_lp h2 _ _ _ _ _ | refine LP.bind3 (program_lp h2 _ _ _) (fun _ _ _ _ _ _ _ => ?_) | exact program_lp h2 _ _ _ | refine LP.read _ (isBody_rd h2 _) (fun _ _ _ => ?_) | refine LP.bind4 (body_lp h2 _ _ _ _) (fun _ _ _ _ _ _ _ _ => ?_) | refine LP.bind4 (up_lp h2 (by assumption) (F := fun s => ps_body _ s _) (fun n d => body_lp h2 _ _ _ _)) (fun _ _ _ _ _ _ _ _ => ?_) | exact body_lp h2 _ _ _ _ | refine LP.pure (fun _ => ?_)
theorem sources_lp (h2 : Two T U K) : ∀ k : Nat, (∀ (n : Nat) (d : Int) (a1 : List Tree), LP T U K n (ps_source.j1 k (⟨T, (n : Nat), d⟩ : ParK) a1) (ps_source.j1 k (⟨U, (n : Nat), d⟩ : ParK) a1)) ∧
    (∀ (n : Nat) (d : Int) (a1 : List Tree), LP T U K n (ps_source.l1 k (⟨T, (n : Nat), d⟩ : ParK) a1) (ps_source.l1 k (⟨U, (n : Nat), d⟩ : ParK) a1)) := by
  intro k
  induction k with
  | zero =>
    refine ⟨?_, ?_⟩ <;> intros <;> simp only [ps_source.j1, ps_source.l1] <;> exact LP.none
  | succ k ih =>
    obtain ⟨i0, i1⟩ := ih
    refine ⟨?_, ?_⟩
    · intros
      simp only [ps_source.j1]
      repeat' first | exact LP.ret3 noF | exact LP.ret3 (by assumption) | exact LP.ret4 noF | exact LP.ret4 (by assumption) | refine LP.ite (fun _ => ?_) (fun _ => ?_) | refine LP.bind3 (definition_lp h2 _ _ _) (fun _ _ _ _ _ _ _ => ?_) | exact definition_lp h2 _ _ _ | refine LP.bind3 (i1 _ _ _) (fun _ _ _ _ _ _ _ => ?_) | exact i1 _ _ _ | refine LP.pure (fun _ => ?_)
    · intros
      simp only [ps_source.l1]
      repeat' first | exact LP.ret3 noF | exact LP.ret3 (by assumption) | exact LP.ret4 noF | exact LP.ret4 (by assumption) | refine LP.ite (fun _ => ?_) (fun _ => ?_) | refine LP.read _ (token_rd h2 _) (fun _ _ _ => ?_) | refine LP.read _ (isBody_rd h2 _) (fun _ _ _ => ?_) | refine LP.read _ (more_rd h2 _ (by assumption) (by assumption)) (fun _ _ _ => ?_) | refine LP.read _ (more_rd h2 _ (by assumption) (by intro _; solve_by_elim)) (fun _ _ _ => ?_) | refine LP.bind3 (i0 _ _ _) (fun _ _ _ _ _ _ _ => ?_) | exact i0 _ _ _ | refine LP.read _ (is_rd h2 _ _) (fun _ _ _ => ?_) | refine LP.pure (fun _ => ?_)
theorem source_l1_lp (h2 : Two T U K) (k : Nat) : ∀ (n : Nat) (d : Int) (a1 : List Tree), LP T U K n (ps_source.l1 k (⟨T, (n : Nat), d⟩ : ParK) a1) (ps_source.l1 k (⟨U, (n : Nat), d⟩ : ParK) a1) := (sources_lp h2 k).2
theorem source_lp (h2 : Two T U K) (k : Nat) : ∀ (n : Nat) (d : Int), LP T U K n (ps_source k (⟨T, (n : Nat), d⟩ : ParK)) (ps_source k (⟨U, (n : Nat), d⟩ : ParK)) := by
  intros
  unfold ps_source
  repeat' first | exact LP.ret3 noF | exact LP.ret3 (by assumption) | exact LP.ret4 noF | exact LP.ret4 (by assumption) | refine LP.ite (fun _ => ?_) (fun _ => ?_) | refine LP.bind3 (source_l1_lp h2 _ _ _ _) (fun _ _ _ _ _ _ _ => ?_) | exact source_l1_lp h2 _ _ _ _ | refine LP.pure (fun _ => ?_)
end Go.Proofs.YtnhifhlbelogcaaDoor
