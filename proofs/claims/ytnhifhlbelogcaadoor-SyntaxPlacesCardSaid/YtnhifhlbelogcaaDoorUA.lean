/- The program's parser sees no more than the tokens up to where it stands. -/
import Derived.Test.YtnhifhlbelogcaaDoorSM
set_option linter.unusedVariables false
set_option linter.unusedSimpArgs false
namespace Go.Proofs.YtnhifhlbelogcaaDoor
open Go Go.Eng
variable {T U : List Token} {K n : Nat} {d : Int} {α β σ : Type} {t : Token}
/-- A fault at a token. -/
def FP (T : List Token) (n : Nat) (v : Value) : Prop := ∃ t e, T[n]? = some t ∧ v = faultV e t.At ∧ (e = 40 ∨ e = 41 ∨ e = 42) ∧ (t.Kind = 5 → e = 40)
/-- What comes out has a state, and perhaps a fault. -/
class HasSt (ρ : Type) where
  st : ρ → ParK
  flt : ρ → Option Value
  put : ρ → ParK → ρ
  put_st : ∀ r, put r (st r) = r
  st_put : ∀ r s, st (put r s) = s
  flt_put : ∀ r s, flt (put r s) = flt r
  put_put : ∀ r s u, put (put r s) u = put r u
instance : HasSt (Option Value × α × ParK) := ⟨fun r => r.2.2, fun r => r.1, fun r s => (r.1, r.2.1, s), fun _ => rfl, fun _ _ => rfl, fun _ _ => rfl, fun _ _ _ => rfl⟩
instance : HasSt (Option Value × Int × List Tree × ParK) := ⟨fun r => r.2.2.2, fun r => r.1, fun r s => (r.1, r.2.1, r.2.2.1, s), fun _ => rfl, fun _ _ => rfl, fun _ _ => rfl, fun _ _ _ => rfl⟩
instance : HasSt (Bool × ParK) := ⟨fun r => r.2, fun _ => none, fun r s => (r.1, s), fun _ => rfl, fun _ _ => rfl, fun _ _ => rfl, fun _ _ _ => rfl⟩
/-- Over two lists that are alike up to K, from n on: the same, if it ends there. -/
def LP {ρ : Type} [HasSt ρ] (T U : List Token) (K n : Nat) (A B : Option ρ) : Prop :=
  n ≤ T.length → ∀ r, A = some r → ∃ n' d', HasSt.st r = ⟨T, (n' : Nat), d'⟩ ∧ n ≤ n' ∧ n' ≤ T.length ∧ (∀ v, HasSt.flt r = some v → FP T n' v) ∧ (n' ≤ K → B = some (HasSt.put r ⟨U, (n' : Nat), d'⟩))
section
variable {ρ : Type} [HasSt ρ] [HasSt σ]
theorem LP.none {B : Option ρ} : LP T U K n none B := fun _ r h => nomatch h
theorem LP.mono {A B : Option ρ} {n0 : Nat} (h : n0 ≤ n) (hn : n ≤ T.length) (hA : LP T U K n A B) : LP T U K n0 A B := fun _ r hr => by
  obtain ⟨n', d', h1, h2, h3⟩ := hA hn r hr
  exact ⟨n', d', h1, by omega, h3⟩
theorem LP.bind {A B : Option ρ} {GA GB : ρ → Option σ} (h : LP T U K n A B) (hg : ∀ r n' d', n ≤ n' → n' ≤ T.length → (∀ v, HasSt.flt r = some v → FP T n' v) → LP T U K n' (GA (HasSt.put r ⟨T, (n' : Nat), d'⟩)) (GB (HasSt.put r ⟨U, (n' : Nat), d'⟩))) : LP T U K n (Option.bind A GA) (Option.bind B GB) := by
  intro hn r hr
  obtain ⟨x, hA, hG⟩ := Option.bind_eq_some_iff.1 hr
  obtain ⟨n', d', e1, l1, l2, f1, k1⟩ := h hn x hA
  have hx : HasSt.put x ⟨T, (n' : Nat), d'⟩ = x := by rw [← e1]; exact HasSt.put_st x
  obtain ⟨n2, d2, e2, m1, m2, f2, k2⟩ := hg x n' d' l1 l2 f1 l2 r (by rw [hx]; exact hG)
  exact ⟨n2, d2, e2, by omega, m2, f2, fun hk => by rw [k1 (by omega), Option.bind_some]; exact k2 hk⟩
theorem LP.ite {c : Prop} [Decidable c] {A A' B B' : Option ρ} (h1 : c → LP T U K n A A') (h0 : ¬ c → LP T U K n B B') : LP T U K n (if c then A else B) (if c then A' else B') := by
  by_cases h : c
  · rw [if_pos h, if_pos h]; exact h1 h
  · rw [if_neg h, if_neg h]; exact h0 h
theorem LP.pure {A : Option β} {GA GB : β → Option ρ} (hg : ∀ x, LP T U K n (GA x) (GB x)) : LP T U K n (Option.bind A GA) (Option.bind A GB) := by
  cases A with
  | none => exact LP.none
  | some x => exact hg x
theorem LP.read {RA RB : Option β} (P : β → Prop) (hR : ∀ x, RA = some x → P x ∧ n < T.length ∧ (n ≤ K → RB = some x)) {GA GB : β → Option ρ} (hg : ∀ x, P x → n < T.length → LP T U K n (GA x) (GB x)) : LP T U K n (Option.bind RA GA) (Option.bind RB GB) := by
  intro hn r hr
  obtain ⟨x, hA, hG⟩ := Option.bind_eq_some_iff.1 hr
  obtain ⟨p, l, k1⟩ := hR x hA
  obtain ⟨n2, d2, e2, m1, m2, f2, k2⟩ := hg x p l hn r hG
  exact ⟨n2, d2, e2, m1, m2, f2, fun hk => by rw [k1 (by omega), Option.bind_some]; exact k2 hk⟩
end
theorem LP.bind3 [HasSt σ] {A B : Option (Option Value × α × ParK)} {GA GB : (Option Value × α × ParK) → Option σ} (h : LP T U K n A B) (hg : ∀ x v n' d', n ≤ n' → n' ≤ T.length → (∀ f, x = some f → FP T n' f) → LP T U K n' (GA (x, v, ⟨T, (n' : Nat), d'⟩)) (GB (x, v, ⟨U, (n' : Nat), d'⟩))) : LP T U K n (Option.bind A GA) (Option.bind B GB) :=
  LP.bind h fun r n' d' => hg r.1 r.2.1 n' d'
theorem LP.bind4 [HasSt σ] {A B : Option (Option Value × Int × List Tree × ParK)} {GA GB : (Option Value × Int × List Tree × ParK) → Option σ} (h : LP T U K n A B) (hg : ∀ x i v n' d', n ≤ n' → n' ≤ T.length → (∀ f, x = some f → FP T n' f) → LP T U K n' (GA (x, i, v, ⟨T, (n' : Nat), d'⟩)) (GB (x, i, v, ⟨U, (n' : Nat), d'⟩))) : LP T U K n (Option.bind A GA) (Option.bind B GB) :=
  LP.bind h fun r n' d' => hg r.1 r.2.1 r.2.2.1 n' d'
theorem LP.bindm [HasSt σ] {A B : Option (Bool × ParK)} {GA GB : (Bool × ParK) → Option σ} (h : LP T U K n A B) (hg : ∀ b n' d', n ≤ n' → n' ≤ T.length → LP T U K n' (GA (b, ⟨T, (n' : Nat), d'⟩)) (GB (b, ⟨U, (n' : Nat), d'⟩))) : LP T U K n (Option.bind A GA) (Option.bind B GB) :=
  LP.bind h fun r n' d' h1 h2 _ => hg r.1 n' d' h1 h2
theorem LP.ret3 {x : Option Value} {v : α} (hx : ∀ f, x = some f → FP T n f) : LP T U K n (some (x, v, (⟨T, (n : Nat), d⟩ : ParK))) (some (x, v, (⟨U, (n : Nat), d⟩ : ParK))) := fun hn r hr => by
  cases hr
  exact ⟨n, d, rfl, Nat.le_refl _, hn, hx, fun _ => rfl⟩
theorem LP.ret4 {x : Option Value} {i : Int} {v : List Tree} (hx : ∀ f, x = some f → FP T n f) : LP T U K n (some (x, i, v, (⟨T, (n : Nat), d⟩ : ParK))) (some (x, i, v, (⟨U, (n : Nat), d⟩ : ParK))) := fun hn r hr => by
  cases hr
  exact ⟨n, d, rfl, Nat.le_refl _, hn, hx, fun _ => rfl⟩
theorem LP.retm {b : Bool} : LP T U K n (some (b, (⟨T, (n : Nat), d⟩ : ParK))) (some (b, (⟨U, (n : Nat), d⟩ : ParK))) := fun hn r hr => by
  cases hr
  exact ⟨n, d, rfl, Nat.le_refl _, hn, (fun _ h => nomatch h), fun _ => rfl⟩
theorem noF {P : Value → Prop} : ∀ f, (none : Option Value) = some f → P f := fun _ h => nomatch h
/-- The two lists. -/
structure Two (T U : List Token) (K : Nat) : Prop where
  len : T.length ≤ 16001
  eq : ∀ i, i ≤ K → T[i]? = U[i]?
theorem idx_get (h : idx T (n : Int) = some t) : T[n]? = some t := by
  unfold idx at h
  rw [if_pos (by omega)] at h
  simpa using h
section
set_option linter.unusedSectionVars false
variable (h2 : Two T U K) (k : Nat)
include h2
theorem token_rd : ∀ x, ps_token k (⟨T, (n : Nat), d⟩ : ParK) = some x → T[n]? = some x ∧ n < T.length ∧ (n ≤ K → ps_token k (⟨U, (n : Nat), d⟩ : ParK) = some x) := fun x h => by
  unfold ps_token at h ⊢
  obtain ⟨y, h1, hy⟩ := Option.bind_eq_some_iff.1 h
  cases hy
  have hg := idx_get h1
  refine ⟨hg, (List.getElem?_eq_some_iff.1 hg).1, fun hk => ?_⟩
  rw [idx_some (by rw [← h2.eq n hk]; exact hg)]
  rfl
/-- Is it one of these? Then it is not the end. -/
abbrev NE (T : List Token) (n : Nat) (b : Bool) : Prop := b = true → ∀ t, T[n]? = some t → t.Kind ≠ 5
theorem is_rd (L : List (List UInt8)) : ∀ x, ps_is k (⟨T, (n : Nat), d⟩ : ParK) L = some x → NE T n x ∧ n < T.length ∧ (n ≤ K → ps_is k (⟨U, (n : Nat), d⟩ : ParK) L = some x) := fun x h => by
  unfold ps_is at h ⊢
  obtain ⟨t, ht, hx⟩ := Option.bind_eq_some_iff.1 h
  obtain ⟨g1, g2, g3⟩ := token_rd h2 k t ht
  refine ⟨fun hb u hu h5 => ?_, g2, fun hk => by rw [g3 hk, Option.bind_some]; exact hx⟩
  rw [g1] at hu
  cases hu
  rw [if_neg (by omega), if_neg (by omega)] at hx
  cases hx
  cases hb
theorem isBody_rd : ∀ x, ps_isBody k (⟨T, (n : Nat), d⟩ : ParK) = some x → NE T n x ∧ n < T.length ∧ (n ≤ K → ps_isBody k (⟨U, (n : Nat), d⟩ : ParK) = some x) := fun x h => by
  unfold ps_isBody at h ⊢
  obtain ⟨b, hb, hx⟩ := Option.bind_eq_some_iff.1 h
  cases hx
  obtain ⟨g1, g2, g3⟩ := is_rd h2 k _ _ hb
  exact ⟨g1, g2, fun hk => by rw [g3 hk]; rfl⟩
theorem isBare_rd : ∀ x, ps_isBare k (⟨T, (n : Nat), d⟩ : ParK) = some x → NE T n x ∧ n < T.length ∧ (n ≤ K → ps_isBare k (⟨U, (n : Nat), d⟩ : ParK) = some x) := fun x h => by
  unfold ps_isBare at h ⊢
  obtain ⟨t, ht, hx⟩ := Option.bind_eq_some_iff.1 h
  obtain ⟨g1, g2, g3⟩ := token_rd h2 k t ht
  by_cases h1 : t.Kind = 1
  · rw [if_pos h1] at hx
    cases hx
    exact ⟨fun _ u hu => by rw [g1] at hu; cases hu; omega, g2, fun hk => by rw [g3 hk, Option.bind_some, if_pos h1]⟩
  · rw [if_neg h1] at hx
    obtain ⟨b, hb, hx⟩ := Option.bind_eq_some_iff.1 hx
    cases hx
    obtain ⟨e1, e2, e3⟩ := is_rd h2 k _ _ hb
    exact ⟨e1, e2, fun hk => by rw [g3 hk, Option.bind_some, if_neg h1, e3 hk]; rfl⟩
/-- A fault, or none. -/
abbrev FF (T : List Token) (n : Nat) (x : Option Value) : Prop := ∀ f, x = some f → FP T n f
theorem give_rd {e : Int} (he : e = 40 ∨ e = 41 ∨ e = 42) (h5 : ∀ t, T[n]? = some t → t.Kind = 5 → e = 40) : ∀ x, ps_give k (⟨T, (n : Nat), d⟩ : ParK) e = some x → FF T n x ∧ n < T.length ∧ (n ≤ K → ps_give k (⟨U, (n : Nat), d⟩ : ParK) e = some x) := fun x h => by
  unfold ps_give at h ⊢
  obtain ⟨t, ht, hx⟩ := Option.bind_eq_some_iff.1 h
  cases hx
  obtain ⟨g1, g2, g3⟩ := token_rd h2 k t ht
  exact ⟨fun f hf => by cases hf; exact ⟨t, e, g1, rfl, he, h5 t g1⟩, g2, fun hk => by rw [g3 hk]; rfl⟩
theorem give40_rd : ∀ x, ps_give k (⟨T, (n : Nat), d⟩ : ParK) 40 = some x → FF T n x ∧ n < T.length ∧ (n ≤ K → ps_give k (⟨U, (n : Nat), d⟩ : ParK) 40 = some x) := give_rd h2 k (.inl rfl) (fun _ _ _ => rfl)
theorem shallow_rd : ∀ x, ps_shallow k (⟨T, (n : Nat), d⟩ : ParK) = some x → FF T n x ∧ n < T.length ∧ (n ≤ K → ps_shallow k (⟨U, (n : Nat), d⟩ : ParK) = some x) := fun x h => by
  unfold ps_shallow at h ⊢
  obtain ⟨b, hb, hx⟩ := Option.bind_eq_some_iff.1 h
  obtain ⟨g1, g2, g3⟩ := isBody_rd h2 k b hb
  by_cases hb1 : b = true
  · rw [if_pos hb1] at hx
    by_cases h8 : (8 : Int) ≤ d
    · rw [if_pos h8] at hx
      obtain ⟨y, hy, hx⟩ := Option.bind_eq_some_iff.1 hx
      obtain ⟨q1, q2, q3⟩ := give_rd h2 k (.inr (.inl rfl)) (fun t ht h5 => absurd h5 (g1 hb1 t ht)) y hy
      have hxy : x = y := by
        by_cases hs : y.isSome = true
        · rw [if_pos hs] at hx; exact (Option.some.inj hx).symm
        · rw [if_neg hs] at hx; cases hx; cases y with
          | none => rfl
          | some z => exact absurd rfl hs
      subst hxy
      exact ⟨q1, g2, fun hk => by rw [g3 hk, Option.bind_some, if_pos hb1, if_pos h8, q3 hk, Option.bind_some]; exact hx⟩
    · rw [if_neg h8] at hx
      cases hx
      exact ⟨noF, g2, fun hk => by rw [g3 hk, Option.bind_some, if_pos hb1, if_neg h8]⟩
  · rw [if_neg hb1] at hx
    cases hx
    exact ⟨noF, g2, fun hk => by rw [g3 hk, Option.bind_some, if_neg hb1]⟩
theorem more_rd {b : Bool} {len most : Int} (hn : n < T.length) (hb : NE T n b) : ∀ x, ps_more k (⟨T, (n : Nat), d⟩ : ParK) b len most = some x → FF T n x ∧ n < T.length ∧ (n ≤ K → ps_more k (⟨U, (n : Nat), d⟩ : ParK) b len most = some x) := fun x hx => by
  unfold ps_more at hx ⊢
  by_cases hb1 : b = true
  · rw [if_pos hb1] at hx
    by_cases h8 : most ≤ len
    · rw [if_pos h8] at hx
      obtain ⟨y, hy, hx⟩ := Option.bind_eq_some_iff.1 hx
      obtain ⟨q1, q2, q3⟩ := give_rd h2 k (.inr (.inr rfl)) (fun t ht h5 => absurd h5 (hb hb1 t ht)) y hy
      have hxy : x = y := by
        by_cases hs : y.isSome = true
        · rw [if_pos hs] at hx; exact (Option.some.inj hx).symm
        · rw [if_neg hs] at hx; cases hx; cases y with
          | none => rfl
          | some z => exact absurd rfl hs
      subst hxy
      exact ⟨q1, q2, fun hk => by rw [if_pos hb1, if_pos h8, q3 hk, Option.bind_some]; exact hx⟩
    · rw [if_neg h8] at hx
      cases hx
      exact ⟨noF, hn, fun hk => by rw [if_pos hb1, if_neg h8]⟩
  · rw [if_neg hb1] at hx
    cases hx
    exact ⟨noF, hn, fun hk => by rw [if_neg hb1]⟩
/-- One token is taken. -/
theorem LP.up {ρ : Type} [HasSt ρ] {A B : Option ρ} (hn : n < T.length) (h : LP T U K (n + 1) A B) : LP T U K n A B := LP.mono (Nat.le_succ n) hn h
theorem w64_up (hn : n < T.length) : w64 ((n : Int) + 1) = ((n + 1 : Nat) : Int) := w64_succ (by have := h2.len; omega)
theorem may_lp (s : List UInt8) : LP T U K n (ps_may k (⟨T, (n : Nat), d⟩ : ParK) s) (ps_may k (⟨U, (n : Nat), d⟩ : ParK) s) := by
  unfold ps_may
  refine LP.read _ (is_rd h2 k _) fun b hb hn => LP.ite (fun _ => ?_) (fun _ => LP.retm)
  show LP T U K n (some (b, (⟨T, w64 ((n : Int) + 1), d⟩ : ParK))) (some (b, (⟨U, w64 ((n : Int) + 1), d⟩ : ParK)))
  rw [w64_up h2 hn]
  exact LP.up h2 hn LP.retm
theorem want_lp (s : List UInt8) : LP T U K n (ps_want k (⟨T, (n : Nat), d⟩ : ParK) s) (ps_want k (⟨U, (n : Nat), d⟩ : ParK) s) := by
  have hj : n < T.length → LP T U K n (ps_want.j1 k (⟨T, (n : Nat), d⟩ : ParK)) (ps_want.j1 k (⟨U, (n : Nat), d⟩ : ParK)) := fun hn => by
    unfold ps_want.j1
    show LP T U K n (Option.bind (idx T (w64 (w64 ((n : Int) + 1) - 1))) fun x46 => some (none, x46.At, (⟨T, w64 ((n : Int) + 1), d⟩ : ParK))) (Option.bind (idx U (w64 (w64 ((n : Int) + 1) - 1))) fun x46 => some (none, x46.At, (⟨U, w64 ((n : Int) + 1), d⟩ : ParK)))
    have := h2.len
    rw [w64_up h2 hn, w64_of (n := ((n + 1 : Nat) : Int) - 1) (by omega) (by omega), show ((n + 1 : Nat) : Int) - 1 = (n : Int) by omega]
    refine LP.read (fun _ => True) (fun x hx => ⟨trivial, hn, fun hk => ?_⟩) fun x _ _ => LP.up h2 hn (LP.ret3 noF)
    have hg := idx_get hx
    exact idx_some (by rw [← h2.eq n hk]; exact hg)
  unfold ps_want
  refine LP.read _ (is_rd h2 k _) fun b hb hn => LP.ite (fun _ => hj hn) (fun _ => ?_)
  exact LP.read _ (give40_rd h2 k) fun x hx _ => LP.ite (fun _ => LP.ret3 hx) (fun _ => hj hn)
theorem kind_lp (q : Int) : LP T U K n (ps_kind k (⟨T, (n : Nat), d⟩ : ParK) q) (ps_kind k (⟨U, (n : Nat), d⟩ : ParK) q) := by
  have hj : ∀ t, n < T.length → LP T U K n (ps_kind.j1 k (⟨T, (n : Nat), d⟩ : ParK) t) (ps_kind.j1 k (⟨U, (n : Nat), d⟩ : ParK) t) := fun t hn => by
    unfold ps_kind.j1
    show LP T U K n (some (none, t, (⟨T, w64 ((n : Int) + 1), d⟩ : ParK))) (some (none, t, (⟨U, w64 ((n : Int) + 1), d⟩ : ParK)))
    rw [w64_up h2 hn]
    exact LP.up h2 hn (LP.ret3 noF)
  unfold ps_kind
  refine LP.read _ (token_rd h2 k) fun t ht hn => LP.ite (fun _ => hj t hn) (fun _ => ?_)
  exact LP.read _ (give40_rd h2 k) fun x hx _ => LP.ite (fun _ => LP.ret3 hx) (fun _ => hj t hn)
end
end Go.Proofs.YtnhifhlbelogcaaDoor
