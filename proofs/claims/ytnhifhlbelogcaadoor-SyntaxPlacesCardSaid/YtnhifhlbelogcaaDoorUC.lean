/- Likewise: those that call one another. -/
import Derived.Test.YtnhifhlbelogcaaDoorUB
set_option linter.unusedVariables false
set_option linter.unusedSimpArgs false
set_option maxHeartbeats 1000000
namespace Go.Proofs.YtnhifhlbelogcaaDoor
open Go Go.Eng
variable {T U : List Token} {K : Nat}
theorem group_lp (h2 : Two T U K) : ∀ k : Nat, (∀ (n : Nat) (d : Int), LP T U K n (ps_declaration k (⟨T, (n : Nat), d⟩ : ParK)) (ps_declaration k (⟨U, (n : Nat), d⟩ : ParK))) ∧
    (∀ (n : Nat) (d : Int), LP T U K n (ps_typ k (⟨T, (n : Nat), d⟩ : ParK)) (ps_typ k (⟨U, (n : Nat), d⟩ : ParK))) ∧
    (∀ (n : Nat) (d : Int) (a1 : List UInt8), LP T U K n (ps_body k (⟨T, (n : Nat), d⟩ : ParK) a1) (ps_body k (⟨U, (n : Nat), d⟩ : ParK) a1)) ∧
    (∀ (n : Nat) (d : Int) (a0 : List Tree), LP T U K n (ps_fields.j2 k a0 (⟨T, (n : Nat), d⟩ : ParK)) (ps_fields.j2 k a0 (⟨U, (n : Nat), d⟩ : ParK))) ∧
    (∀ (n : Nat) (d : Int) (a0 : List Tree), LP T U K n (ps_fields.j1 k a0 (⟨T, (n : Nat), d⟩ : ParK)) (ps_fields.j1 k a0 (⟨U, (n : Nat), d⟩ : ParK))) ∧
    (∀ (n : Nat) (d : Int) (a1 : List Tree), LP T U K n (ps_fields.l1 k (⟨T, (n : Nat), d⟩ : ParK) a1) (ps_fields.l1 k (⟨U, (n : Nat), d⟩ : ParK) a1)) ∧
    (∀ (n : Nat) (d : Int), LP T U K n (ps_fields k (⟨T, (n : Nat), d⟩ : ParK)) (ps_fields k (⟨U, (n : Nat), d⟩ : ParK))) ∧
    (∀ (n : Nat) (d : Int) (a1 : List Tree), LP T U K n (ps_choice.j1 k (⟨T, (n : Nat), d⟩ : ParK) a1) (ps_choice.j1 k (⟨U, (n : Nat), d⟩ : ParK) a1)) ∧
    (∀ (n : Nat) (d : Int) (a1 : List Tree), LP T U K n (ps_choice.j2 k (⟨T, (n : Nat), d⟩ : ParK) a1) (ps_choice.j2 k (⟨U, (n : Nat), d⟩ : ParK) a1)) ∧
    (∀ (n : Nat) (d : Int) (a1 : List Tree), LP T U K n (ps_choice.l1 k (⟨T, (n : Nat), d⟩ : ParK) a1) (ps_choice.l1 k (⟨U, (n : Nat), d⟩ : ParK) a1)) ∧
    (∀ (n : Nat) (d : Int), LP T U K n (ps_choice k (⟨T, (n : Nat), d⟩ : ParK)) (ps_choice k (⟨U, (n : Nat), d⟩ : ParK))) ∧
    (∀ (n : Nat) (d : Int) (a0 : Token) (a2 : List Tree), LP T U K n (ps_arm.j4 k a0 (⟨T, (n : Nat), d⟩ : ParK) a2) (ps_arm.j4 k a0 (⟨U, (n : Nat), d⟩ : ParK) a2)) ∧
    (∀ (n : Nat) (d : Int) (a0 : Token) (a2 : List Tree), LP T U K n (ps_arm.j1 k a0 (⟨T, (n : Nat), d⟩ : ParK) a2) (ps_arm.j1 k a0 (⟨U, (n : Nat), d⟩ : ParK) a2)) ∧
    (∀ (n : Nat) (d : Int) (a0 : Token) (a2 : List Tree), LP T U K n (ps_arm.j3 k a0 (⟨T, (n : Nat), d⟩ : ParK) a2) (ps_arm.j3 k a0 (⟨U, (n : Nat), d⟩ : ParK) a2)) ∧
    (∀ (n : Nat) (d : Int) (a0 : Token) (a2 : List Tree), LP T U K n (ps_arm.j2 k a0 (⟨T, (n : Nat), d⟩ : ParK) a2) (ps_arm.j2 k a0 (⟨U, (n : Nat), d⟩ : ParK) a2)) ∧
    (∀ (n : Nat) (d : Int) (a0 : Token) (a2 : List Tree), LP T U K n (ps_arm.l1 k a0 (⟨T, (n : Nat), d⟩ : ParK) a2) (ps_arm.l1 k a0 (⟨U, (n : Nat), d⟩ : ParK) a2)) ∧
    (∀ (n : Nat) (d : Int), LP T U K n (ps_arm k (⟨T, (n : Nat), d⟩ : ParK)) (ps_arm k (⟨U, (n : Nat), d⟩ : ParK))) := by
  intro k
  induction k with
  | zero =>
    refine ⟨?_, ?_, ?_, ?_, ?_, ?_, ?_, ?_, ?_, ?_, ?_, ?_, ?_, ?_, ?_, ?_, ?_⟩ <;> intros <;> simp only [ps_declaration, ps_typ, ps_body, ps_fields.j2, ps_fields.j1, ps_fields.l1, ps_fields, ps_choice.j1, ps_choice.j2, ps_choice.l1, ps_choice, ps_arm.j4, ps_arm.j1, ps_arm.j3, ps_arm.j2, ps_arm.l1, ps_arm] <;> exact LP.none
  | succ k ih =>
    obtain ⟨i0, i1, i2, i3, i4, i5, i6, i7, i8, i9, i10, i11, i12, i13, i14, i15, i16⟩ := ih
    refine ⟨?_, ?_, ?_, ?_, ?_, ?_, ?_, ?_, ?_, ?_, ?_, ?_, ?_, ?_, ?_, ?_, ?_⟩
    · intros
      simp only [ps_declaration]
      repeat' first | exact LP.ret3 noF | exact LP.ret3 (by assumption) | exact LP.ret4 noF | exact LP.ret4 (by assumption) | refine LP.ite (fun _ => ?_) (fun _ => ?_) | refine LP.read _ (token_rd h2 _) (fun _ _ _ => ?_) | refine LP.bindm (may_lp h2 _ _) (fun _ _ _ _ _ => ?_) | refine LP.bind3 (name_lp h2 _ _ _ _) (fun _ _ _ _ _ _ _ => ?_) | refine LP.bind3 (up_lp h2 (by assumption) (F := fun s => ps_name _ s _) (fun n d => name_lp h2 _ _ _ _)) (fun _ _ _ _ _ _ _ => ?_) | exact name_lp h2 _ _ _ _ | refine LP.read _ (is_rd h2 _ _) (fun _ _ _ => ?_) | refine LP.bind3 (fixed_lp h2 _ _ _ _ _) (fun _ _ _ _ _ _ _ => ?_) | exact fixed_lp h2 _ _ _ _ _ | refine LP.bind3 (listed_lp h2 _ _ _ _ _) (fun _ _ _ _ _ _ _ => ?_) | exact listed_lp h2 _ _ _ _ _ | refine LP.bind3 (i1 _ _) (fun _ _ _ _ _ _ _ => ?_) | exact i1 _ _ | refine LP.pure (fun _ => ?_)
    · intros
      simp only [ps_typ]
      repeat' first | exact LP.ret3 noF | exact LP.ret3 (by assumption) | exact LP.ret4 noF | exact LP.ret4 (by assumption) | refine LP.ite (fun _ => ?_) (fun _ => ?_) | refine LP.read _ (shallow_rd h2 _) (fun _ _ _ => ?_) | refine LP.read _ (isBody_rd h2 _) (fun _ _ _ => ?_) | refine LP.read _ (token_rd h2 _) (fun _ _ _ => ?_) | refine LP.bind4 (i2 _ _ _) (fun _ _ _ _ _ _ _ _ => ?_) | refine LP.bind4 (up_lp h2 (by assumption) (F := fun s => ps_body _ s _) (fun n d => i2 _ _ _)) (fun _ _ _ _ _ _ _ _ => ?_) | exact i2 _ _ _ | refine LP.bind3 (bare_lp h2 _ _ _) (fun _ _ _ _ _ _ _ => ?_) | exact bare_lp h2 _ _ _ | refine LP.pure (fun _ => ?_)
    · intros
      simp only [ps_body]
      repeat' first | exact LP.ret3 noF | exact LP.ret3 (by assumption) | exact LP.ret4 noF | exact LP.ret4 (by assumption) | refine LP.ite (fun _ => ?_) (fun _ => ?_) | refine LP.bind3 (members_lp h2 _ _ _) (fun _ _ _ _ _ _ _ => ?_) | exact members_lp h2 _ _ _ | refine LP.bind3 (i6 _ _) (fun _ _ _ _ _ _ _ => ?_) | exact i6 _ _ | refine LP.bind3 (i10 _ _) (fun _ _ _ _ _ _ _ => ?_) | exact i10 _ _ | refine LP.pure (fun _ => ?_)
    · intros
      simp only [ps_fields.j2]
      repeat' first | exact LP.ret3 noF | exact LP.ret3 (by assumption) | exact LP.ret4 noF | exact LP.ret4 (by assumption) | refine LP.ite (fun _ => ?_) (fun _ => ?_) | refine LP.bind3 (i0 _ _) (fun _ _ _ _ _ _ _ => ?_) | exact i0 _ _ | refine LP.bind3 (want_lp h2 _ _) (fun _ _ _ _ _ _ _ => ?_) | refine LP.bind3 (i5 _ _ _) (fun _ _ _ _ _ _ _ => ?_) | exact i5 _ _ _ | refine LP.pure (fun _ => ?_)
    · intros
      simp only [ps_fields.j1]
      repeat' first | exact LP.ret3 noF | exact LP.ret3 (by assumption) | exact LP.ret4 noF | exact LP.ret4 (by assumption) | refine LP.ite (fun _ => ?_) (fun _ => ?_) | refine LP.read _ (shallow_rd h2 _) (fun _ _ _ => ?_) | refine LP.read _ (isBare_rd h2 _) (fun _ _ _ => ?_) | refine LP.read _ (more_rd h2 _ (by assumption) (by assumption)) (fun _ _ _ => ?_) | refine LP.read _ (more_rd h2 _ (by assumption) (by intro _; solve_by_elim)) (fun _ _ _ => ?_) | refine LP.bind3 (i3 _ _ _) (fun _ _ _ _ _ _ _ => ?_) | exact i3 _ _ _ | refine LP.read _ (isBody_rd h2 _) (fun _ _ _ => ?_) | refine LP.read _ (is_rd h2 _ _) (fun _ _ _ => ?_) | refine LP.pure (fun _ => ?_)
    · intros
      simp only [ps_fields.l1]
      repeat' first | exact LP.ret3 noF | exact LP.ret3 (by assumption) | exact LP.ret4 noF | exact LP.ret4 (by assumption) | refine LP.ite (fun _ => ?_) (fun _ => ?_) | refine LP.bind3 (i4 _ _ _) (fun _ _ _ _ _ _ _ => ?_) | exact i4 _ _ _ | refine LP.bindm (may_lp h2 _ _) (fun _ _ _ _ _ => ?_) | refine LP.pure (fun _ => ?_)
    · intros
      simp only [ps_fields]
      repeat' first | exact LP.ret3 noF | exact LP.ret3 (by assumption) | exact LP.ret4 noF | exact LP.ret4 (by assumption) | refine LP.ite (fun _ => ?_) (fun _ => ?_) | refine LP.bind3 (want_lp h2 _ _) (fun _ _ _ _ _ _ _ => ?_) | refine LP.bind3 (i5 _ _ _) (fun _ _ _ _ _ _ _ => ?_) | exact i5 _ _ _ | refine LP.pure (fun _ => ?_)
    · intros
      simp only [ps_choice.j1]
      repeat' first | exact LP.ret3 noF | exact LP.ret3 (by assumption) | exact LP.ret4 noF | exact LP.ret4 (by assumption) | refine LP.ite (fun _ => ?_) (fun _ => ?_) | refine LP.read _ (is_rd h2 _ _) (fun _ _ _ => ?_) | refine LP.bind3 (want_lp h2 _ _) (fun _ _ _ _ _ _ _ => ?_) | refine LP.bind3 (i0 _ _) (fun _ _ _ _ _ _ _ => ?_) | exact i0 _ _ | refine LP.pure (fun _ => ?_)
    · intros
      simp only [ps_choice.j2]
      repeat' first | exact LP.ret3 noF | exact LP.ret3 (by assumption) | exact LP.ret4 noF | exact LP.ret4 (by assumption) | refine LP.ite (fun _ => ?_) (fun _ => ?_) | refine LP.read _ (is_rd h2 _ _) (fun _ _ _ => ?_) | refine LP.read _ (more_rd h2 _ (by assumption) (by assumption)) (fun _ _ _ => ?_) | refine LP.read _ (more_rd h2 _ (by assumption) (by intro _; solve_by_elim)) (fun _ _ _ => ?_) | refine LP.bind3 (i16 _ _) (fun _ _ _ _ _ _ _ => ?_) | exact i16 _ _ | refine LP.bind3 (i9 _ _ _) (fun _ _ _ _ _ _ _ => ?_) | exact i9 _ _ _ | refine LP.pure (fun _ => ?_)
    · intros
      simp only [ps_choice.l1]
      repeat' first | exact LP.ret3 noF | exact LP.ret3 (by assumption) | exact LP.ret4 noF | exact LP.ret4 (by assumption) | refine LP.ite (fun _ => ?_) (fun _ => ?_) | refine LP.bind3 (i8 _ _ _) (fun _ _ _ _ _ _ _ => ?_) | exact i8 _ _ _ | refine LP.read _ (is_rd h2 _ _) (fun _ _ _ => ?_) | refine LP.bind3 (i7 _ _ _) (fun _ _ _ _ _ _ _ => ?_) | exact i7 _ _ _ | refine LP.pure (fun _ => ?_)
    · intros
      simp only [ps_choice]
      repeat' first | exact LP.ret3 noF | exact LP.ret3 (by assumption) | exact LP.ret4 noF | exact LP.ret4 (by assumption) | refine LP.ite (fun _ => ?_) (fun _ => ?_) | refine LP.bind3 (want_lp h2 _ _) (fun _ _ _ _ _ _ _ => ?_) | refine LP.bind3 (i0 _ _) (fun _ _ _ _ _ _ _ => ?_) | exact i0 _ _ | refine LP.bind3 (i9 _ _ _) (fun _ _ _ _ _ _ _ => ?_) | exact i9 _ _ _ | refine LP.pure (fun _ => ?_)
    · intros
      simp only [ps_arm.j4]
      repeat' first | exact LP.ret3 noF | exact LP.ret3 (by assumption) | exact LP.ret4 noF | exact LP.ret4 (by assumption) | refine LP.ite (fun _ => ?_) (fun _ => ?_) | refine LP.bind3 (want_lp h2 _ _) (fun _ _ _ _ _ _ _ => ?_) | refine LP.pure (fun _ => ?_)
    · intros
      simp only [ps_arm.j1]
      repeat' first | exact LP.ret3 noF | exact LP.ret3 (by assumption) | exact LP.ret4 noF | exact LP.ret4 (by assumption) | refine LP.ite (fun _ => ?_) (fun _ => ?_) | refine LP.bind3 (i0 _ _) (fun _ _ _ _ _ _ _ => ?_) | exact i0 _ _ | refine LP.bind3 (i11 _ _ _ _) (fun _ _ _ _ _ _ _ => ?_) | exact i11 _ _ _ _ | refine LP.pure (fun _ => ?_)
    · intros
      simp only [ps_arm.j3]
      repeat' first | exact LP.ret3 noF | exact LP.ret3 (by assumption) | exact LP.ret4 noF | exact LP.ret4 (by assumption) | refine LP.ite (fun _ => ?_) (fun _ => ?_) | refine LP.bind3 (want_lp h2 _ _) (fun _ _ _ _ _ _ _ => ?_) | refine LP.bind3 (i15 _ _ _ _) (fun _ _ _ _ _ _ _ => ?_) | exact i15 _ _ _ _ | refine LP.pure (fun _ => ?_)
    · intros
      simp only [ps_arm.j2]
      repeat' first | exact LP.ret3 noF | exact LP.ret3 (by assumption) | exact LP.ret4 noF | exact LP.ret4 (by assumption) | refine LP.ite (fun _ => ?_) (fun _ => ?_) | refine LP.read _ (is_rd h2 _ _) (fun _ _ _ => ?_) | refine LP.read _ (more_rd h2 _ (by assumption) (by assumption)) (fun _ _ _ => ?_) | refine LP.read _ (more_rd h2 _ (by assumption) (by intro _; solve_by_elim)) (fun _ _ _ => ?_) | refine LP.bind3 (want_lp h2 _ _) (fun _ _ _ _ _ _ _ => ?_) | refine LP.bind3 (value_lp h2 _ _ _) (fun _ _ _ _ _ _ _ => ?_) | exact value_lp h2 _ _ _ | refine LP.bind3 (i13 _ _ _ _) (fun _ _ _ _ _ _ _ => ?_) | exact i13 _ _ _ _ | refine LP.pure (fun _ => ?_)
    · intros
      simp only [ps_arm.l1]
      repeat' first | exact LP.ret3 noF | exact LP.ret3 (by assumption) | exact LP.ret4 noF | exact LP.ret4 (by assumption) | refine LP.ite (fun _ => ?_) (fun _ => ?_) | refine LP.bind3 (i14 _ _ _ _) (fun _ _ _ _ _ _ _ => ?_) | exact i14 _ _ _ _ | refine LP.read _ (is_rd h2 _ _) (fun _ _ _ => ?_) | refine LP.bind3 (i12 _ _ _ _) (fun _ _ _ _ _ _ _ => ?_) | exact i12 _ _ _ _ | refine LP.pure (fun _ => ?_)
    · intros
      simp only [ps_arm]
      repeat' first | exact LP.ret3 noF | exact LP.ret3 (by assumption) | exact LP.ret4 noF | exact LP.ret4 (by assumption) | refine LP.ite (fun _ => ?_) (fun _ => ?_) | refine LP.read _ (token_rd h2 _) (fun _ _ _ => ?_) | refine LP.bind3 (i15 _ _ _ _) (fun _ _ _ _ _ _ _ => ?_) | exact i15 _ _ _ _ | refine LP.pure (fun _ => ?_)
theorem declaration_lp (h2 : Two T U K) (k : Nat) : ∀ (n : Nat) (d : Int), LP T U K n (ps_declaration k (⟨T, (n : Nat), d⟩ : ParK)) (ps_declaration k (⟨U, (n : Nat), d⟩ : ParK)) := (group_lp h2 k).1
theorem body_lp (h2 : Two T U K) (k : Nat) : ∀ (n : Nat) (d : Int) (a1 : List UInt8), LP T U K n (ps_body k (⟨T, (n : Nat), d⟩ : ParK) a1) (ps_body k (⟨U, (n : Nat), d⟩ : ParK) a1) := (group_lp h2 k).2.2.1
end Go.Proofs.YtnhifhlbelogcaaDoor
