/- CachePlays: the reference in plain words. -/
import Derived.Test.YtpdpfiaediadgaaCQ
import Derived.Test.YtpdpfiaediadgaaCH
set_option linter.unusedVariables false
set_option linter.unusedSimpArgs false
namespace Go.Proofs.Ytpdpfiaediadgaa
open Go Go.Eng
theorem Ev.unf' {α : Type} {f : Nat → Option α} {r : α} (h : Ev (fun k => f (k + 1)) r) : Ev f r := Ev.step h (fun _ => rfl)
variable {g : CacheConfig} {X : Clis} {kn : Known} {w : WhoC} {s wa : Int} {L : List Known123} {I : List Item}
/-- The place of the first that is so; -1: none. -/
def at1 {α : Type} (p : α → Bool) (l : List α) : Int := match l.findIdx? p with | some i => (i : Int) | none => -1
theorem at1_none {α : Type} {p : α → Bool} {l : List α} (h : ∀ x ∈ l, p x = false) : at1 p l = -1 := by
  unfold at1
  rw [List.findIdx?_eq_none_iff.2 h]
theorem at1_some {α : Type} {p : α → Bool} {A B : List α} {x : α} (hA : ∀ y ∈ A, p y = false) (hx : p x = true) : at1 p (A ++ x :: B) = (A.length : Int) := by
  unfold at1
  rw [List.findIdx?_append, List.findIdx?_eq_none_iff.2 hA, List.findIdx?_cons, hx]
  simp
def lim : Nat := 2932031007402
theorem client_ev {C : CacheConfig} (hL : L.length ≤ lim) : ∀ (b a : List Known123), L = a ++ b → (∀ x ∈ a, ¬ x.Who = w) → Ev (fun k => rc_client.l1 k ⟨C, L, I⟩ w (a.length : Int)) (at1 (fun x => decide (x.Who = w)) L)
  | [], a, e, ha => by
    refine Ev.unf' ?_
    simp only [rc_client.l1]
    have hl : L.length = a.length := by rw [e]; simp
    refine Ev.neg (by omega) ?_
    refine Ev.cast Ev.ret (at1_none fun x hx => ?_).symm
    rw [e, List.append_nil] at hx
    simpa using ha x hx
  | x :: b, a, e, ha => by
    refine Ev.unf' ?_
    simp only [rc_client.l1]
    have hl : L.length = a.length + (b.length + 1) := by rw [e]; simp
    refine Ev.pos (by omega) ?_
    refine Ev.bindc (r := x) (by rw [idx_at rfl (by omega)]; simp [e]) ?_
    by_cases h : x.Who = w
    · refine Ev.pos h ?_
      refine Ev.cast Ev.ret ?_
      rw [e]
      exact (at1_some (fun y hy => by simpa using ha y hy) (by simpa using h)).symm
    · refine Ev.neg h ?_
      rw [w64_succ (by unfold lim at hL; omega)]
      have ih := client_ev (C := C) hL b (a ++ [x]) (by rw [e]; simp) (fun y hy => by
        rcases List.mem_append.1 hy with hy | hy
        · exact ha y hy
        · rw [List.mem_singleton] at hy; rw [hy]; exact h)
      rwa [List.length_append, List.length_singleton] at ih
theorem item_ev {C : CacheConfig} (hI : I.length ≤ lim) : ∀ (b a : List Item), I = a ++ b → (∀ x ∈ a, ¬ (x.Who = w ∧ x.Sequence = s)) → Ev (fun k => rc_item.l1 k ⟨C, L, I⟩ w s (a.length : Int)) (at1 (fun x => decide (x.Who = w ∧ x.Sequence = s)) I)
  | [], a, e, ha => by
    refine Ev.unf' ?_
    simp only [rc_item.l1]
    have hl : I.length = a.length := by rw [e]; simp
    refine Ev.neg (by omega) ?_
    refine Ev.cast Ev.ret (at1_none fun x hx => ?_).symm
    rw [e, List.append_nil] at hx
    exact decide_eq_false (ha x hx)
  | x :: b, a, e, ha => by
    refine Ev.unf' ?_
    simp only [rc_item.l1]
    have hl : I.length = a.length + (b.length + 1) := by rw [e]; simp
    refine Ev.pos (by omega) ?_
    have hidx : idx I (a.length : Int) = some x := by rw [idx_at rfl (by omega)]; simp [e]
    refine Ev.bindc hidx ?_
    have ih : ¬ (x.Who = w ∧ x.Sequence = s) → Ev (fun k => rc_item.l1 k ⟨C, L, I⟩ w s (w64 ((a.length : Int) + 1))) (at1 (fun x => decide (x.Who = w ∧ x.Sequence = s)) I) := fun h => by
      rw [w64_succ (by unfold lim at hI; omega)]
      have ih := item_ev (C := C) hI b (a ++ [x]) (by rw [e]; simp) (fun y hy => by
        rcases List.mem_append.1 hy with hy | hy
        · exact ha y hy
        · rw [List.mem_singleton] at hy; rw [hy]; exact h)
      rwa [List.length_append, List.length_singleton] at ih
    by_cases h : x.Who = w
    · refine Ev.pos h ?_
      refine Ev.bindc hidx ?_
      by_cases h2 : x.Sequence = s
      · refine Ev.pos h2 ?_
        refine Ev.cast Ev.ret ?_
        rw [e]
        exact (at1_some (fun y hy => decide_eq_false (ha y hy)) (decide_eq_true ⟨h, h2⟩)).symm
      · exact Ev.neg h2 (ih fun h3 => h2 h3.2)
    · exact Ev.neg h (ih fun h3 => h h3.1)
theorem of_ev {C : CacheConfig} (hI : I.length ≤ lim) : ∀ (b a : List Item), I = a ++ b → Ev (fun k => rc_of.l1 k ⟨C, L, I⟩ w ((a.filter fun i => decide (i.Who = w)).length : Int) (a.length : Int)) ((I.filter fun i => decide (i.Who = w)).length : Int)
  | [], a, e => by
    refine Ev.unf' ?_
    simp only [rc_of.l1]
    have hl : I.length = a.length := by rw [e]; simp
    refine Ev.neg (by omega) ?_
    refine Ev.cast Ev.ret ?_
    rw [e, List.append_nil]
  | x :: b, a, e => by
    refine Ev.unf' ?_
    simp only [rc_of.l1]
    have hl : I.length = a.length + (b.length + 1) := by rw [e]; simp
    refine Ev.pos (by omega) ?_
    refine Ev.bindc (r := x) (by rw [idx_at rfl (by omega)]; simp [e]) ?_
    have hf := List.length_filter_le (fun i : Item => decide (i.Who = w)) a
    have ih := of_ev (C := C) hI b (a ++ [x]) (by rw [e]; simp)
    rw [List.length_append, List.length_singleton, List.filter_append] at ih
    by_cases h : x.Who = w
    · refine Ev.pos h ?_
      rw [w64_succ (by unfold lim at hI; omega), w64_succ (by unfold lim at hI; omega)]
      simpa [h] using ih
    · refine Ev.neg h ?_
      rw [w64_succ (by unfold lim at hI; omega)]
      simpa [h] using ih
def szI (res : Int) (i : Item) : Int := if i.Answered = true then (i.Reply.length : Int) else res
theorem bytes_ev {C : CacheConfig} (hI : I.length ≤ lim) (hb : ∀ i ∈ I, 0 ≤ szI C.Reserve i ∧ szI C.Reserve i ≤ 1100) (hs : I.length ≤ 1000000000000) : ∀ (b a : List Item), I = a ++ b → Ev (fun k => rc_Bytes.l1 k ⟨C, L, I⟩ ((a.map (szI C.Reserve)).sum) (a.length : Int)) ((I.map (szI C.Reserve)).sum)
  | [], a, e => by
    refine Ev.unf' ?_
    simp only [rc_Bytes.l1]
    have hl : I.length = a.length := by rw [e]; simp
    refine Ev.neg (by omega) ?_
    refine Ev.cast Ev.ret ?_
    rw [e, List.append_nil]
  | x :: b, a, e => by
    refine Ev.unf' ?_
    simp only [rc_Bytes.l1]
    have hl : I.length = a.length + (b.length + 1) := by rw [e]; simp
    refine Ev.pos (by omega) ?_
    have hidx : idx I (a.length : Int) = some x := by rw [idx_at rfl (by omega)]; simp [e]
    refine Ev.bindc hidx ?_
    have ha := sum_bnd (l := a) (f := szI C.Reserve) (M := 1100) fun y hy => hb y (by rw [e]; simp [hy])
    have hx := hb x (by rw [e]; simp)
    have ih := bytes_ev (C := C) hI hb hs b (a ++ [x]) (by rw [e]; simp)
    rw [List.length_append, List.length_singleton] at ih
    simp only [List.map_append, List.map_cons, List.map_nil, List.sum_append, List.sum_cons, List.sum_nil, Int.add_zero] at ih
    by_cases h : x.Answered = true
    · refine Ev.pos h ?_
      refine Ev.bindc hidx ?_
      have hz : szI C.Reserve x = (x.Reply.length : Int) := by unfold szI; rw [if_pos h]
      rw [hz] at hx ih
      rw [w64_succ (by unfold lim at hI; omega), w64_of (by omega) (by omega)]
      exact ih
    · refine Ev.neg h ?_
      have hz : szI C.Reserve x = C.Reserve := by unfold szI; rw [if_neg h]
      rw [hz] at hx ih
      rw [w64_succ (by unfold lim at hI; omega)]
      rw [w64_of (by omega) (by omega)]
      exact ih
end Go.Proofs.Ytpdpfiaediadgaa
