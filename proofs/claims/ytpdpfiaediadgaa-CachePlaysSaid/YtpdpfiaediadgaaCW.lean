/- CachePlays: both go together. -/
import Derived.Test.YtpdpfiaediadgaaCV
set_option linter.unusedVariables false
set_option linter.unusedSimpArgs false
namespace Go.Proofs.Ytpdpfiaediadgaa
open Go Go.Eng
variable {g : CacheConfig} {X : Clis} {kn : Known} {w : WhoC} {s wa : Int} {L : List Known123} {I : List Item}
def keepI (w : WhoC) (wa : Int) (i : Item) : Bool := !decide (i.Who = w) || decide (wa ≤ i.Sequence)
theorem catN_one {α : Type} {n : Nat} {l : List α} {x : α} (h : l.length + 1 ≤ n) : catN n l [x] = some (l ++ [x]) := by
  unfold catN
  rw [if_pos (by simpa using h)]
theorem rises_l1 {C : CacheConfig} {L' : List Known123} {a1 : Int} {kx : Known123} (hI : I.length < lim) (hx : idx L' a1 = some kx) (hk : kx.Who = w) : ∀ (b a : List Item), I = a ++ b → Ev (fun k => rc_rises.l1 k ⟨C, L, I⟩ a1 wa L' (a.filter (keepI w wa)) (a.length : Int)) ⟨C, L', I.filter (keepI w wa)⟩
  | [], a, e => by
    refine Ev.unf' ?_
    simp only [rc_rises.l1]
    have hl : I.length = a.length := by rw [e]; simp
    refine Ev.neg (by omega) ?_
    refine Ev.cast Ev.ret ?_
    rw [e, List.append_nil]
  | x :: b, a, e => by
    refine Ev.unf' ?_
    simp only [rc_rises.l1]
    have hl : I.length = a.length + (b.length + 1) := by rw [e]; simp
    refine Ev.pos (by omega) ?_
    have hidx : idx I (a.length : Int) = some x := by rw [idx_at rfl (by omega)]; simp [e]
    refine Ev.bindc hidx ?_
    refine Ev.bindc hx ?_
    have ih := rises_l1 (C := C) hI hx hk b (a ++ [x]) (by rw [e]; simp)
    rw [List.length_append, List.length_singleton, List.filter_append] at ih
    have hf := List.length_filter_le (keepI w wa) a
    have hy : keepI w wa x = true → Ev (fun k => rc_rises.j1 k ⟨C, L, I⟩ a1 wa L' (a.filter (keepI w wa)) (a.length : Int) true) ⟨C, L', I.filter (keepI w wa)⟩ := fun h => by
      refine Ev.unf' ?_
      simp only [rc_rises.j1]
      refine Ev.pos trivial ?_
      refine Ev.bindc hidx ?_
      refine Ev.bindc (catN_one (by unfold lim at hI; omega)) ?_
      rw [w64_succ (by unfold lim at hI; omega)]
      simpa [h] using ih
    by_cases h : x.Who = w
    · refine Ev.pos (by rw [hk]; exact h) ?_
      refine Ev.bindc hidx ?_
      by_cases h2 : wa ≤ x.Sequence
      · rw [show decide (wa ≤ x.Sequence) = true from decide_eq_true h2]
        exact hy (by simp [keepI, h2])
      · rw [show decide (wa ≤ x.Sequence) = false from decide_eq_false h2]
        refine Ev.unf' ?_
        simp only [rc_rises.j1]
        refine Ev.neg (by simp) ?_
        rw [w64_succ (by unfold lim at hI; omega)]
        have : keepI w wa x = false := by simp [keepI, h, h2]
        simpa [this] using ih
    · refine Ev.neg (by rw [hk]; exact h) ?_
      exact hy (by simp [keepI, h])
theorem keys_mput {v : Known} (hn : (X.map (·.1)).Nodup) {x : WhoC × Known} (hx : x ∈ X) : ∃ y ∈ mput X w v, y.1 = x.1 := by
  by_cases e : x.1 = w
  · exact ⟨(w, v), mget_mem (by rw [mget_mput hn, if_pos rfl]), e.symm⟩
  · exact ⟨x, mget_mem (by rw [mget_mput hn, if_neg e]; exact mget_of_mem hn hx), rfl⟩
theorem callsOf_keep : callsOf (I.filter (keepI w wa)) w = keepM (callsOf I w) wa := by
  unfold callsOf keepM
  rw [List.filter_filter, List.filter_map, List.filter_filter]
  congr 1
  refine List.filter_congr fun i hi => ?_
  by_cases h : i.Who = w
  · by_cases h2 : wa ≤ i.Sequence
    · have : ¬ i.Sequence < wa := by omega
      simp [keepI, h, h2, toE, this]
    · have : i.Sequence < wa := by omega
      simp [keepI, h, h2, toE, this]
  · simp [h]
theorem callsOf_other {w' : WhoC} (h : w' ≠ w) : callsOf (I.filter (keepI w wa)) w' = callsOf I w' := by
  unfold callsOf
  rw [List.filter_filter]
  congr 1
  refine List.filter_congr fun i hi => ?_
  by_cases h2 : i.Who = w'
  · have : ¬ i.Who = w := by rw [h2]; exact h
    simp [keepI, this, h2, h]
  · simp [h2]
/-- The relation under a change of one client's things. -/
theorem Rel.put (R : Rel X L I) (hn : (X.map (·.1)).Nodup) {A B : Clis} (hX : X = A ++ (w, kn) :: B) (hA : ∀ x ∈ A, x.1 ≠ w) (hB : ∀ x ∈ B, x.1 ≠ w) {kn' : Known} {I' : List Item} (h1 : kn'.calls = callsOf I' w) (h2 : ∀ w', w' ≠ w → callsOf I' w' = callsOf I w') (h3 : ∀ i ∈ I', i.Who = w ∨ i ∈ I) :
    Rel (mput X w kn') (L.set A.length ⟨w, kn'.water⟩) I' := by
  have hk : mget X w = some kn := mget_of_mem hn (by rw [hX]; simp)
  have hp : mput X w kn' = A ++ (w, kn') :: B := by
    obtain ⟨A', B', e1, e2, e3, e4⟩ := mput_some hk hn
    have hf : mfind X w = some A.length := by
      refine mfind_at hn (by rw [hX]; simp) (by simp [hX])
    unfold mput
    rw [hf, hX]
    exact set_mid _ _ _ _
  refine ⟨?_, fun x hx => ?_, fun i hi => ?_⟩
  · rw [hp, R.l, hX]
    simp only [List.map_append, List.map_cons]
    rw [show A.length = (A.map fun x : WhoC × Known => (⟨x.1, x.2.water⟩ : Known123)).length by simp, set_mid]
  · rcases mem_mput hn hx with rfl | ⟨hx, hne⟩
    · exact h1
    · rw [h2 _ hne]; exact R.calls x hx
  · rcases h3 i hi with e | hi
    · exact ⟨(w, kn'), mget_mem (by rw [mget_mput hn, if_pos rfl]), e.symm⟩
    · obtain ⟨x, hx, e⟩ := R.own i hi
      obtain ⟨y, hy, e2⟩ := keys_mput (v := kn') (w := w) hn hx
      exact ⟨y, hy, e2.trans e⟩
theorem mput_app {ν : Type} {m : List (Int × ν)} {v : ν} (h : mget m s = none) : mput m s v = m ++ [(s, v)] := mput_none h
theorem callsOf_app {i : Item} : callsOf (I ++ [i]) w = if i.Who = w then callsOf I w ++ [toE i] else callsOf I w := by
  unfold callsOf
  rw [List.filter_append]
  by_cases h : i.Who = w
  · simp [h]
  · simp [h]
theorem set_same {α : Type} {A B : List α} {x : α} : (A ++ x :: B).set A.length x = A ++ x :: B := set_mid _ _ _ _
end Go.Proofs.Ytpdpfiaediadgaa
