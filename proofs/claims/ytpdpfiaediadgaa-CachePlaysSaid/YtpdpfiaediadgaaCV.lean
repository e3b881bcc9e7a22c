/- CachePlays: how the two hang together. -/
import Derived.Test.YtpdpfiaediadgaaCU
set_option linter.unusedVariables false
set_option linter.unusedSimpArgs false
namespace Go.Proofs.Ytpdpfiaediadgaa
open Go Go.Eng
variable {g : CacheConfig} {X : Clis} {kn : Known} {w : WhoC} {s wa : Int} {L : List Known123} {I : List Item}
def toE (i : Item) : Int × Entry := (i.Sequence, ⟨i.Answered, i.Reply⟩)
def callsOf (I : List Item) (w : WhoC) : Calls' := (I.filter fun i => decide (i.Who = w)).map toE
structure Rel (X : Clis) (L : List Known123) (I : List Item) : Prop where
  l : L = X.map fun x => ⟨x.1, x.2.water⟩
  calls : ∀ x ∈ X, x.2.calls = callsOf I x.1
  own : ∀ i ∈ I, ∃ x ∈ X, x.1 = i.Who
theorem Rel.no (R : Rel X L I) (hk : mget X w = none) : at1 (fun x : Known123 => decide (x.Who = w)) L = -1 ∧ callsOf I w = [] := by
  have h1 := (mfind_none (mfind_of_none hk)).2
  constructor
  · refine at1_none fun x hx => ?_
    rw [R.l] at hx
    obtain ⟨y, hy, rfl⟩ := List.mem_map.1 hx
    simpa using h1 y hy
  · unfold callsOf
    rw [List.filter_eq_nil_iff.2 (fun i hi => ?_)]
    · rfl
    · obtain ⟨x, hx, e⟩ := R.own i hi
      have := h1 x hx
      rw [e] at this
      simpa using this
theorem Rel.yes (R : Rel X L I) (h : (X.map (·.1)).Nodup) (hk : mget X w = some kn) : ∃ A B : Clis, X = A ++ (w, kn) :: B ∧ (∀ x ∈ A, x.1 ≠ w) ∧ (∀ x ∈ B, x.1 ≠ w) ∧ at1 (fun x : Known123 => decide (x.Who = w)) L = (A.length : Int) ∧ idx L (A.length : Int) = some ⟨w, kn.water⟩ ∧ kn.calls = callsOf I w := by
  obtain ⟨A, B, hm, _, hA, hB⟩ := mput_some hk h
  have hL : L = A.map (fun x => (⟨x.1, x.2.water⟩ : Known123)) ++ ⟨w, kn.water⟩ :: B.map (fun x => ⟨x.1, x.2.water⟩) := by rw [R.l, hm]; simp
  refine ⟨A, B, hm, hA, hB, ?_, ?_, R.calls (w, kn) (by rw [hm]; simp)⟩
  · rw [hL, at1_some (fun y hy => ?_) (by simp)]
    · simp
    · obtain ⟨x, hx, rfl⟩ := List.mem_map.1 hy
      simpa using hA x hx
  · rw [hL, idx_at (j := A.length) rfl (by simp)]
    simp
theorem item_cases (I : List Item) (w : WhoC) (s : Int) : (mget (callsOf I w) s = none ∧ at1 (fun x : Item => decide (x.Who = w ∧ x.Sequence = s)) I = -1 ∧ ∀ i ∈ I, ¬ (i.Who = w ∧ i.Sequence = s)) ∨
    ∃ A i B, I = A ++ i :: B ∧ i.Who = w ∧ i.Sequence = s ∧ (∀ y ∈ A, ¬ (y.Who = w ∧ y.Sequence = s)) ∧ mget (callsOf I w) s = some ⟨i.Answered, i.Reply⟩ ∧ at1 (fun x : Item => decide (x.Who = w ∧ x.Sequence = s)) I = (A.length : Int) ∧ idx I (A.length : Int) = some i := by
  by_cases h : ∃ i ∈ I, i.Who = w ∧ i.Sequence = s
  · right
    have : ∃ A i B, I = A ++ i :: B ∧ (i.Who = w ∧ i.Sequence = s) ∧ ∀ y ∈ A, ¬ (y.Who = w ∧ y.Sequence = s) := by
      induction I with
      | nil => obtain ⟨i, hi, _⟩ := h; cases hi
      | cons x I ih =>
        by_cases hx : x.Who = w ∧ x.Sequence = s
        · exact ⟨[], x, I, rfl, hx, by simp⟩
        · obtain ⟨A, i, B, h1, h2, h3⟩ := ih (by
            obtain ⟨i, hi, hh⟩ := h
            rcases List.mem_cons.1 hi with rfl | hi
            · exact absurd hh hx
            · exact ⟨i, hi, hh⟩)
          refine ⟨x :: A, i, B, by rw [h1]; rfl, h2, fun y hy => ?_⟩
          rcases List.mem_cons.1 hy with rfl | hy
          · exact hx
          · exact h3 y hy
    obtain ⟨A, i, B, h1, h2, h3⟩ := this
    refine ⟨A, i, B, h1, h2.1, h2.2, h3, ?_, ?_, ?_⟩
    · rw [h1]
      unfold callsOf
      rw [List.filter_append, List.filter_cons, if_pos (by simpa using h2.1), List.map_append, List.map_cons, mget_skip, ← h2.2]
      · exact mget_here
      · intro x hx
        obtain ⟨y, hy, rfl⟩ := List.mem_map.1 hx
        have := List.mem_filter.1 hy
        exact fun e => h3 y this.1 ⟨by simpa using this.2, e⟩
    · rw [h1]
      exact at1_some (fun y hy => decide_eq_false (h3 y hy)) (decide_eq_true h2)
    · rw [h1, idx_at (j := A.length) rfl (by simp)]
      simp
  · left
    have h' : ∀ i ∈ I, ¬ (i.Who = w ∧ i.Sequence = s) := fun i hi hh => h ⟨i, hi, hh⟩
    refine ⟨?_, at1_none fun x hx => decide_eq_false (h' x hx), h'⟩
    cases hg : mget (callsOf I w) s with
    | none => rfl
    | some e =>
      obtain ⟨i, hi, he⟩ := List.mem_map.1 (mget_mem hg)
      have := List.mem_filter.1 hi
      exact absurd ⟨by simpa using this.2, (Prod.mk.inj he).1⟩ (h' i this.1)
theorem sum_one {κ ν : Type} [DecidableEq κ] {m : List (κ × ν)} (hn : (m.map (·.1)).Nodup) {k : κ} (hk : ∃ x ∈ m, x.1 = k) (F : κ × ν → Int) (c : Int) : (m.map fun x => (if k = x.1 then c else 0) + F x).sum = c + (m.map F).sum := by
  induction m with
  | nil => obtain ⟨x, hx, _⟩ := hk; cases hx
  | cons y m ih =>
    simp only [List.map_cons, List.nodup_cons, List.sum_cons] at hn ⊢
    by_cases e : k = y.1
    · rw [if_pos e]
      have : (m.map fun x => (if k = x.1 then c else 0) + F x) = m.map F := List.map_congr_left fun x hx => by
        rw [if_neg (fun e2 => hn.1 (List.mem_map.2 ⟨x, hx, by rw [← e2, e]⟩)), Int.zero_add]
      rw [this]
      omega
    · rw [if_neg e, ih hn.2 (by
        obtain ⟨x, hx, hh⟩ := hk
        rcases List.mem_cons.1 hx with rfl | hx
        · exact absurd hh.symm e
        · exact ⟨x, hx, hh⟩)]
      omega
theorem sum_calls (hn : (X.map (·.1)).Nodup) (f : Int × Entry → Int) : ∀ I : List Item, (∀ i ∈ I, ∃ x ∈ X, x.1 = i.Who) → (X.map fun x => ((callsOf I x.1).map f).sum).sum = (I.map fun i => f (toE i)).sum
  | [], _ => by
    have : ∀ X : Clis, (X.map fun x => ((callsOf [] x.1).map f).sum).sum = 0 := fun X => by
      induction X with
      | nil => rfl
      | cons x X ih => simp only [List.map_cons, List.sum_cons, ih]; rfl
    rw [this]
    rfl
  | i :: I, h => by
    have ih := sum_calls hn f I fun j hj => h j (by simp [hj])
    have : (X.map fun x => ((callsOf (i :: I) x.1).map f).sum) = X.map fun x => (if i.Who = x.1 then f (toE i) else 0) + ((callsOf I x.1).map f).sum := List.map_congr_left fun x hx => by
      unfold callsOf
      rw [List.filter_cons]
      by_cases e : i.Who = x.1
      · simp [e]
      · simp [e]
    rw [this, sum_one hn (h i (by simp)), ih]
    simp
theorem Rel.len (R : Rel X L I) (hn : (X.map (·.1)).Nodup) : eSum X = (I.length : Int) := by
  have h := sum_calls hn (fun _ => 1) I R.own
  have h1 : ∀ {β : Type} (l : List β), (l.map fun _ => (1 : Int)).sum = (l.length : Int) := fun l => by
    induction l with
    | nil => rfl
    | cons x l ih => simp only [List.map_cons, List.sum_cons, List.length_cons, ih]; omega
  rw [h1] at h
  rw [← h]
  unfold eSum
  congr 1
  refine List.map_congr_left fun x hx => ?_
  rw [R.calls x hx, h1]
theorem Rel.bytes (R : Rel X L I) (hn : (X.map (·.1)).Nodup) : bSum g.Reserve X = (I.map (szI g.Reserve)).sum := by
  have h := sum_calls hn (fun x => szE g.Reserve x.2) I R.own
  rw [show (I.map (szI g.Reserve)) = I.map fun i => szE g.Reserve (toE i).2 from rfl, ← h]
  unfold bSum bK
  congr 1
  exact List.map_congr_left fun x hx => by rw [R.calls x hx]
end Go.Proofs.Ytpdpfiaediadgaa
