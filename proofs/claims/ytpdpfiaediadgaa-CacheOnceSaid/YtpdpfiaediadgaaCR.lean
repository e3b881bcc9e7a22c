/- CacheOnce: the book, and what a call does to it. -/
import Derived.Test.YtpdpfiaediadgaaCQ
import Derived.Test.YtpdpfiaediadgaaCG
set_option linter.unusedVariables false
set_option linter.unusedSimpArgs false
namespace Go.Proofs.Ytpdpfiaediadgaa
open Go Go.Eng
variable {g : CacheConfig} {X X' : Clis} {kn : Known} {w : WhoC} {s wa : Int} {l : List Seen}
structure Book (l : List Seen) (X : Clis) : Prop where
  uniq : (l.map fun x => (x.w, x.sequence)).Nodup
  seen : ∀ x ∈ l, ∃ kn, mget X x.w = some kn ∧ (kn.water ≤ x.sequence → mget kn.calls x.sequence = some ⟨x.done, x.reply⟩)
  book : ∀ w s e, look X w s = some e → ∃ x ∈ l, x.w = w ∧ x.sequence = s
theorem riseK_water : kn.water ≤ (riseK kn wa).water := by unfold riseK; split <;> simp <;> omega
theorem riseK_wa : wa ≤ (riseK kn wa).water := by
  unfold riseK
  split
  · exact Int.le_refl _
  · omega
theorem uniq_add (hu : (l.map fun x => (x.w, x.sequence)).Nodup) (hat : ∀ x ∈ l, ¬ (x.w = w ∧ x.sequence = s)) : ((l ++ [(⟨w, s, false, []⟩ : Seen)]).map fun x => (x.w, x.sequence)).Nodup := by
  simp only [List.map_append, List.map_cons, List.map_nil, List.nodup_append]
  refine ⟨hu, by simp, fun a ha c hc e => ?_⟩
  obtain ⟨q, hq, rfl⟩ := List.mem_map.1 ha
  simp only [List.mem_singleton] at hc
  subst hc
  exact hat q hq (Prod.mk.inj e)
theorem riseK_get (hs : (riseK kn wa).water ≤ s) : mget (riseK kn wa).calls s = mget kn.calls s := by
  unfold riseK at *
  split
  · rename_i h
    rw [if_pos h] at hs
    simp only at hs ⊢
    rw [mget_keep, if_neg (by omega)]
  · rfl
theorem riseK_sub {e : Entry} (h : mget (riseK kn wa).calls s = some e) : mget kn.calls s = some e := by
  unfold riseK at h
  split at h
  · simp only at h
    rw [mget_keep] at h
    split at h
    · cases h
    · exact h
  · exact h
theorem look_mput (hn : (X.map (·.1)).Nodup) {kn' : Known} {w' : WhoC} : look (mput X w kn') w' s = if w' = w then mget kn'.calls s else look X w' s := by
  unfold look
  rw [mget_mput hn]
  split <;> rfl
theorem Book.rise (B : Book l X) (h : XInv g X) (hk : mget X w = some kn) : Book l (mput X w (riseK kn wa)) where
  uniq := B.uniq
  seen x hx := by
    obtain ⟨kx, h1, h2⟩ := B.seen x hx
    rw [mget_mput h.nd]
    by_cases e : x.w = w
    · rw [if_pos e]
      rw [e, hk, Option.some.injEq] at h1
      subst h1
      exact ⟨_, rfl, fun hs => (riseK_get hs).trans (h2 (Int.le_trans riseK_water hs))⟩
    · rw [if_neg e]
      exact ⟨kx, h1, h2⟩
  book w' s' e he := by
    rw [look_mput h.nd] at he
    split at he
    · rename_i hw
      subst hw
      exact B.book w' s' e (by unfold look; rw [hk]; exact riseK_sub he)
    · exact B.book w' s' e he
/-- A new call. -/
theorem Book.add (B : Book l X) (h : XInv g X) (hk : mget X w = some kn) (hc : mget kn.calls s = none) (hat : ∀ x ∈ l, ¬ (x.w = w ∧ x.sequence = s)) : Book (l ++ [⟨w, s, false, []⟩]) (mput X w ⟨kn.water, mput kn.calls s ⟨false, []⟩⟩) where
  uniq := uniq_add B.uniq hat
  seen x hx := by
    have hnd := (h.get hk).2.nd
    rw [mget_mput h.nd]
    rcases List.mem_append.1 hx with hx | hx
    · obtain ⟨kx, h1, h2⟩ := B.seen x hx
      by_cases e : x.w = w
      · rw [if_pos e]
        rw [e, hk, Option.some.injEq] at h1
        subst h1
        refine ⟨_, rfl, fun hs => ?_⟩
        show mget (mput _ _ _) _ = _
        rw [mget_mput hnd, if_neg (fun e2 => hat x hx ⟨e, e2⟩)]
        exact h2 hs
      · rw [if_neg e]
        exact ⟨kx, h1, h2⟩
    · rw [List.mem_singleton] at hx
      subst hx
      rw [if_pos rfl]
      refine ⟨_, rfl, fun hs => ?_⟩
      show mget (mput _ _ _) _ = _
      rw [mget_mput hnd, if_pos rfl]
  book w' s' e he := by
    rw [look_mput h.nd] at he
    split at he
    · rename_i hw
      subst hw
      simp only at he
      rw [mget_mput (h.get hk).2.nd] at he
      split at he
      · rename_i hs
        subst hs
        exact ⟨⟨w', s', false, []⟩, by simp, rfl, rfl⟩
      · obtain ⟨x, hx, e1, e2⟩ := B.book w' s' e (by unfold look; rw [hk]; exact he)
        exact ⟨x, by simp [hx], e1, e2⟩
    · obtain ⟨x, hx, e1, e2⟩ := B.book w' s' e he
      exact ⟨x, by simp [hx], e1, e2⟩
/-- A new client. -/
theorem Book.new (B : Book l X) (h : XInv g X) (hk : mget X w = none) : Book (l ++ [⟨w, s, false, []⟩]) (mput X w ⟨wa, [(s, ⟨false, []⟩)]⟩) := by
  have hat : ∀ x ∈ l, x.w ≠ w := fun x hx e => by
    obtain ⟨kx, h1, _⟩ := B.seen x hx
    rw [e, hk] at h1
    cases h1
  refine ⟨uniq_add B.uniq fun x hx e => hat x hx e.1, fun x hx => ?_, fun w' s' e he => ?_⟩
  · rw [mget_mput h.nd]
    rcases List.mem_append.1 hx with hx | hx
    · rw [if_neg (hat x hx)]
      exact B.seen x hx
    · rw [List.mem_singleton] at hx
      subst hx
      rw [if_pos rfl]
      exact ⟨_, rfl, fun _ => by simp [mget]⟩
  · rw [look_mput h.nd] at he
    split at he
    · rename_i hw
      subst hw
      by_cases hs : s' = s
      · subst hs
        exact ⟨⟨w', s', false, []⟩, by simp, rfl, rfl⟩
      · simp [mget, Ne.symm hs] at he
    · obtain ⟨x, hx, e1, e2⟩ := B.book w' s' e he
      exact ⟨x, by simp [hx], e1, e2⟩
/-- A call is answered. -/
theorem Book.fin (B : Book l X) (h : XInv g X) (hk : mget X w = some kn) {r : List UInt8} {j : Nat} {x : Seen} (hj : l[j]? = some x) (hw : x.w = w) (hs : x.sequence = s) : Book (l.set j ⟨x.w, x.sequence, true, r⟩) (mput X w ⟨kn.water, mput kn.calls s ⟨true, r⟩⟩) := by
  obtain ⟨hjl, hje⟩ := List.getElem?_eq_some_iff.1 hj
  have hnd := (h.get hk).2.nd
  have hmem : ∀ y, y ∈ l.set j ⟨x.w, x.sequence, true, r⟩ → y = ⟨x.w, x.sequence, true, r⟩ ∨ (y ∈ l ∧ ¬ (y.w = w ∧ y.sequence = s)) := fun y hy => by
    obtain ⟨i, hi, rfl⟩ := List.getElem_of_mem hy
    rw [List.getElem_set]
    by_cases e : j = i
    · exact .inl (if_pos e)
    · rw [if_neg e]
      rw [List.length_set] at hi
      refine .inr ⟨List.getElem_mem hi, fun hc => e ?_⟩
      exact nodup_ix B.uniq (by simpa using hjl) (by simpa using hi) (by simp only [List.getElem_map]; rw [hje, hc.1, hc.2, hw, hs])
  refine ⟨?_, fun y hy => ?_, fun w' s' e he => ?_⟩
  · have : (l.set j ⟨x.w, x.sequence, true, r⟩).map (fun x => (x.w, x.sequence)) = l.map fun x => (x.w, x.sequence) := by
      rw [List.map_set]
      apply List.ext_getElem (by simp)
      intro i h1 h2
      rw [List.getElem_set]
      split
      · rename_i e
        subst e
        rw [List.getElem_map, hje]
      · rfl
    rw [this]
    exact B.uniq
  · rw [mget_mput h.nd]
    rcases hmem y hy with rfl | ⟨hy, hne⟩
    · rw [if_pos hw]
      refine ⟨_, rfl, fun _ => ?_⟩
      show mget (mput _ _ _) _ = _
      rw [mget_mput hnd, if_pos hs]
    · obtain ⟨kx, h1, h2⟩ := B.seen y hy
      by_cases e : y.w = w
      · rw [if_pos e]
        rw [e, hk, Option.some.injEq] at h1
        subst h1
        refine ⟨_, rfl, fun hs' => ?_⟩
        show mget (mput _ _ _) _ = _
        rw [mget_mput hnd, if_neg (fun e2 => hne ⟨e, e2⟩)]
        exact h2 hs'
      · rw [if_neg e]
        exact ⟨kx, h1, h2⟩
  · have hin : ∀ x' ∈ l, ∃ x'' ∈ l.set j ⟨x.w, x.sequence, true, r⟩, x''.w = x'.w ∧ x''.sequence = x'.sequence := fun x' hx' => by
      obtain ⟨i, hi, rfl⟩ := List.getElem_of_mem hx'
      by_cases e : j = i
      · subst e
        exact ⟨⟨x.w, x.sequence, true, r⟩, List.mem_set hjl _, by rw [hje], by rw [hje]⟩
      · refine ⟨l[i], ?_, rfl, rfl⟩
        have : (l.set j ⟨x.w, x.sequence, true, r⟩)[i]'(by simpa using hi) = l[i] := by rw [List.getElem_set, if_neg e]
        rw [← this]
        exact List.getElem_mem _
    have : ∃ x' ∈ l, x'.w = w' ∧ x'.sequence = s' := by
      rw [look_mput h.nd] at he
      split at he
      · rename_i hw'
        subst hw'
        simp only at he
        rw [mget_mput hnd] at he
        split at he
        · rename_i hs'
          exact ⟨x, List.mem_of_getElem? hj, hw, by rw [hs, hs']⟩
        · exact B.book w' s' e (by unfold look; rw [hk]; exact he)
      · exact B.book w' s' e he
    obtain ⟨x', hx', e1, e2⟩ := this
    obtain ⟨x'', hx'', e3, e4⟩ := hin x' hx'
    exact ⟨x'', hx'', e3.trans e1, e4.trans e2⟩
theorem Book.emp : Book [] [] := ⟨by simp, by simp, fun w s e h => by simp [look, mget] at h⟩
/-- Where the loop finds a call in the book. -/
def AtIs (l : List Seen) (w : WhoC) (s : Int) (at_ : Int) : Prop := (at_ = -1 ∧ ∀ x ∈ l, ¬ (x.w = w ∧ x.sequence = s)) ∨ ∃ (j : Nat) (x : Seen), at_ = (j : Int) ∧ l[j]? = some x ∧ x.w = w ∧ x.sequence = s
end Go.Proofs.Ytpdpfiaediadgaa
