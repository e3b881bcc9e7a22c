/- What the cache's calls compute. -/
import Derived.Test.YtpdpfiaediadgaaCP
set_option linter.unusedVariables false
set_option linter.unusedSimpArgs false
namespace Go.Proofs.Ytpdpfiaediadgaa
open Go Go.Eng
variable {g : CacheConfig} {X : Clis} {kn : Known} {w : WhoC} {s wa : Int}
def askP (g : CacheConfig) (X : Clis) (w : WhoC) (s wa : Int) : Int × List UInt8 × Clis :=
  if goodWho w ∧ goodWord s ∧ goodWord wa then
    match mget X w with
    | some kn =>
      if s < (riseK kn wa).water then (4, [], mput X w (riseK kn wa)) else
      match mget (riseK kn wa).calls s with
      | some e => if e.done = true then (3, e.reply, mput X w (riseK kn wa)) else (2, [], mput X w (riseK kn wa))
      | none => if g.Bytes < bSum g.Reserve (mput X w (riseK kn wa)) + g.Reserve ∨ g.Entries ≤ ((riseK kn wa).calls.length : Int) then (5, [], mput X w (riseK kn wa)) else (1, [], mput X w ⟨(riseK kn wa).water, mput (riseK kn wa).calls s ⟨false, []⟩⟩)
    | none => if s < wa then (4, [], X) else if g.Bytes < bSum g.Reserve X + g.Reserve ∨ g.Clients ≤ (X.length : Int) then (5, [], X) else (1, [], mput X w ⟨wa, [(s, ⟨false, []⟩)]⟩)
  else (4, [], X)
theorem word_eq (k : Nat) (n : Int) : ca_word k n = some (decide (goodWord n)) := by
  unfold ca_word goodWord
  by_cases h : 1 ≤ n
  · simp [h]
  · simp [h]
theorem rise_e (hG : GOk g) (h : XInv g X) (hk : mget X w = some kn) : subs ((outM kn.calls wa).map fun _ => (1 : Int)) (eSum X) = eSum (mput X w ⟨wa, keepM kn.calls wa⟩) := by
  have h1 := h.eb' hG
  have h2 := keep_len (m := kn.calls) (wa := wa)
  have h3 := eSum_put h hk ⟨wa, keepM kn.calls wa⟩
  simp only at h3
  have h4 : (kn.calls.length : Int) ≤ 64 := by have := (h.get hk).2.len; have := hG.e2; omega
  have h5 := sum_bnd (l := outM kn.calls wa) (f := fun _ => (1 : Int)) (M := 1) fun x hx => ⟨by omega, by omega⟩
  rw [subs_of (by omega) (by omega), h3]
  omega
theorem rise_b (hG : GOk g) (h : XInv g X) (hk : mget X w = some kn) : subs ((outM kn.calls wa).map fun x => szE g.Reserve x.2) (bSum g.Reserve X) = bSum g.Reserve (mput X w ⟨wa, keepM kn.calls wa⟩) := by
  have h1 := h.bb hG
  have h2 := keep_sum (m := kn.calls) (wa := wa) fun x => szE g.Reserve x.2
  have h3 := bSum_put h hk ⟨wa, keepM kn.calls wa⟩
  simp only at h3
  have h4 := (h.get hk).2.bnd hG
  have h5 := sum_bnd (l := outM kn.calls wa) (f := fun x => szE g.Reserve x.2) (M := 1100) fun x hx => szE_bnd hG ((h.get hk).2.ent x (List.mem_filter.1 hx).1).2
  have h6 := sum_bnd (l := keepM kn.calls wa) (f := fun x => szE g.Reserve x.2) (M := 1100) fun x hx => szE_bnd hG ((h.get hk).2.ent x (List.mem_filter.1 hx).1).2
  unfold bK at h3 h4
  rw [subs_of (by omega) (by omega), h3]
  omega
theorem bSum_rise (hG : GOk g) (h : XInv g X) (hk : mget X w = some kn) : bSum g.Reserve (mput X w (riseK kn wa)) ≤ bSum g.Reserve X := by
  unfold riseK
  split
  · have h2 := keep_sum (m := kn.calls) (wa := wa) fun x => szE g.Reserve x.2
    have h3 := bSum_put h hk ⟨wa, keepM kn.calls wa⟩
    have h5 := sum_bnd (l := outM kn.calls wa) (f := fun x => szE g.Reserve x.2) (M := 1100) fun x hx => szE_bnd hG ((h.get hk).2.ent x (List.mem_filter.1 hx).1).2
    unfold bK at h3
    simp only at h3
    omega
  · rw [mput_id hk h.nd]
    exact Int.le_refl _
theorem bK_add {m : Calls'} (hn : mget m s = none) : bK g.Reserve (mput m s ⟨false, []⟩) = bK g.Reserve m + g.Reserve := by
  unfold bK
  rw [sum_mput_none hn]
  simp [szE]
theorem XInv.rise (hG : GOk g) (h : XInv g X) (hk : mget X w = some kn) (hw : goodWord wa) : XInv g (mput X w (riseK kn wa)) :=
  h.put hG hk ((h.get hk).2.rise hw) (Int.le_trans (bSum_rise hG h hk) h.max)
theorem ask_inv (hG : GOk g) (h : XInv g X) : XInv g (askP g X w s wa).2.2 := by
  unfold askP
  split
  · rename_i hgood
    obtain ⟨hw, hs, hwa⟩ := hgood
    cases hk : mget X w with
    | some kn =>
      have hR := h.rise (wa := wa) hG hk hwa
      have hkr : mget (mput X w (riseK kn wa)) w = some (riseK kn wa) := by rw [mget_mput h.nd, if_pos rfl]
      simp only
      split
      · exact hR
      · cases hc : mget (riseK kn wa).calls s with
        | some e =>
          simp only
          split <;> exact hR
        | none =>
          simp only
          split
          · exact hR
          · rename_i h1 h2
            have hk' := (hR.get hkr).2
            have hr := hG.r1
            have hadd := hk'.add (by omega) hs hc (by omega) (by omega)
            have hb := bSum_put hR hkr ⟨(riseK kn wa).water, mput (riseK kn wa).calls s ⟨false, []⟩⟩
            simp only [bK_add hc] at hb
            have := hR.put hG hkr hadd (by rw [hb]; omega)
            rwa [mput_mput h.nd] at this
    | none =>
      simp only
      split
      · exact h
      · split
        · exact h
        · rename_i h1 h2
          have hr := hG.r1; have he := hG.e1; have hr2 := hG.r2
          refine h.new hk hw ⟨by simp, hwa, fun x hx => ?_, by simpa using he, fun x hx => ?_⟩ (by omega) ?_
          · rw [List.mem_singleton] at hx
            subst hx
            exact ⟨by show wa ≤ s; omega, hs⟩
          · rw [List.mem_singleton] at hx
            subst hx
            exact ⟨fun _ => rfl, by simp; omega⟩
          · rw [bSum_new hk]
            simp [bK, szE]
            omega
  · exact h
theorem ask_eq (hG : GOk g) (h : XInv g X) (k : Nat) : ca_Ask k (mk g X) w s wa = some ((askP g X w s wa).1, (askP g X w s wa).2.1, mk g (askP g X w s wa).2.2) := by
  unfold ca_Ask askP
  have hE := h.eb' hG
  have hB := h.bb hG
  have r1 := hG.r1; have r2 := hG.r2; have b2 := hG.b2
  by_cases hw : goodWho w
  · have hw' := hw
    obtain ⟨a1, a2, a3, a4⟩ := hw'
    rw [if_neg (by omega), if_neg (by omega), if_neg (by omega), if_neg (by omega), word_eq, word_eq]
    simp only [Option.bind_some]
    by_cases hs : goodWord s
    · rw [if_pos (decide_eq_true hs)]
      by_cases hwa : goodWord wa
      · rw [if_pos (decide_eq_true hwa), if_pos (c := goodWho w ∧ goodWord s ∧ goodWord wa) ⟨hw, hs, hwa⟩]
        simp only [mk]
        rcases Option.eq_none_or_eq_some (mget X w) with hk | ⟨kn, hk⟩
        rotate_left
        · simp only [hk, Option.isSome_some, if_true, Option.bind_some]
          unfold riseK
          by_cases hr : kn.water < wa
          · have hR := h.rise (wa := wa) hG hk hwa
            have hkr : mget (mput X w (riseK kn wa)) w = some (riseK kn wa) := by rw [mget_mput h.nd, if_pos rfl]
            unfold riseK at hR hkr
            simp only [if_pos hr] at hR hkr ⊢
            simp only [rise_e hG h hk, rise_b hG h hk]
            have hE' := hR.eb' hG
            have hB' := hR.bb hG
            by_cases hl : s < wa
            · simp only [if_pos hl]
            · simp only [if_neg hl]
              rcases Option.eq_none_or_eq_some (mget (keepM kn.calls wa) s) with hc | ⟨e, hc⟩
              rotate_left
              · simp only [hc, Option.isSome_some, if_true, Option.bind_some]
                by_cases hd : e.done = true
                · simp only [if_pos hd]
                · simp only [if_neg hd]
              · simp only [hc, Option.isSome_none, Bool.false_eq_true, if_false]
                have hw1 : w64 (bSum g.Reserve (mput X w ⟨wa, keepM kn.calls wa⟩) + g.Reserve) = bSum g.Reserve (mput X w ⟨wa, keepM kn.calls wa⟩) + g.Reserve := w64_of (by omega) (by omega)
                have hw2 : w64 (eSum (mput X w ⟨wa, keepM kn.calls wa⟩) + 1) = eSum (mput X w ⟨wa, keepM kn.calls wa⟩) + 1 := w64_of (by omega) (by omega)
                simp only [hw1, hw2]
                by_cases hb : g.Bytes < bSum g.Reserve (mput X w ⟨wa, keepM kn.calls wa⟩) + g.Reserve
                · simp only [if_pos hb, if_pos (Or.inl hb)]
                · by_cases hc' : g.Entries ≤ ((keepM kn.calls wa).length : Int)
                  · simp only [if_neg hb, if_pos hc', if_pos (Or.inr hc')]
                  · have ee := eSum_put hR hkr ⟨wa, mput (keepM kn.calls wa) s ⟨false, []⟩⟩
                    have bb := bSum_put hR hkr ⟨wa, mput (keepM kn.calls wa) s ⟨false, []⟩⟩
                    simp only [bK_add hc, len_mput_none hc, mput_mput h.nd] at ee bb
                    rw [if_neg hb, if_neg hc', if_neg (by omega), ee, bb]
                    simp only [Option.some.injEq, Prod.mk.injEq, true_and, Cache.mk.injEq]
                    omega
          · simp only [if_neg hr, mput_id hk h.nd]
            by_cases hl : s < kn.water
            · simp only [if_pos hl]
            · simp only [if_neg hl]
              rcases Option.eq_none_or_eq_some (mget kn.calls s) with hc | ⟨e, hc⟩
              rotate_left
              · simp only [hc, Option.isSome_some, if_true, Option.bind_some]
                by_cases hd : e.done = true
                · simp only [if_pos hd]
                · simp only [if_neg hd]
              · simp only [hc, Option.isSome_none, Bool.false_eq_true, if_false]
                have hw1 : w64 (bSum g.Reserve X + g.Reserve) = bSum g.Reserve X + g.Reserve := w64_of (by omega) (by omega)
                have hw2 : w64 (eSum X + 1) = eSum X + 1 := w64_of (by omega) (by omega)
                simp only [hw1, hw2]
                by_cases hb : g.Bytes < bSum g.Reserve X + g.Reserve
                · simp only [if_pos hb, if_pos (Or.inl hb)]
                · by_cases hc' : g.Entries ≤ (kn.calls.length : Int)
                  · simp only [if_neg hb, if_pos hc', if_pos (Or.inr hc')]
                  · have ee := eSum_put h hk ⟨kn.water, mput kn.calls s ⟨false, []⟩⟩
                    have bb := bSum_put h hk ⟨kn.water, mput kn.calls s ⟨false, []⟩⟩
                    simp only [bK_add hc, len_mput_none hc] at ee bb
                    rw [if_neg hb, if_neg hc', if_neg (by omega), ee, bb]
                    simp only [Option.some.injEq, Prod.mk.injEq, true_and, Cache.mk.injEq]
                    omega
        · simp only [hk, Option.isSome_none, Bool.false_eq_true, if_false]
          by_cases hl : s < wa
          · simp only [if_pos hl]
          · simp only [if_neg hl]
            have hw1 : w64 (bSum g.Reserve X + g.Reserve) = bSum g.Reserve X + g.Reserve := w64_of (by omega) (by omega)
            have hw2 : w64 (eSum X + 1) = eSum X + 1 := w64_of (by omega) (by omega)
            simp only [hw1, hw2]
            by_cases hb : g.Bytes < bSum g.Reserve X + g.Reserve
            · simp only [if_pos hb, if_pos (Or.inl hb)]
            · by_cases hc' : g.Clients ≤ (X.length : Int)
              · simp only [if_neg hb, if_pos hc', if_pos (Or.inr hc')]
              · have ee := eSum_new (kn := ⟨wa, [(s, ⟨false, []⟩)]⟩) hk
                have bb := bSum_new (g := g) (kn := ⟨wa, [(s, ⟨false, []⟩)]⟩) hk
                rw [if_neg hb, if_neg hc', if_neg (by omega), ee, bb]
                simp [mput, mfind, bK, szE]
      · rw [if_neg (by simpa using hwa), if_neg (c := goodWho w ∧ goodWord s ∧ goodWord wa) (fun h => hwa h.2.2)]
    · rw [if_neg (by simpa using hs), if_neg (c := goodWho w ∧ goodWord s ∧ goodWord wa) (fun h => hs h.2.1)]
  · rw [if_neg (c := goodWho w ∧ goodWord s ∧ goodWord wa) (fun h => hw h.1)]
    unfold goodWho at hw
    by_cases b1 : w.Address < 1
    · rw [if_pos b1]
    rw [if_neg b1]
    by_cases b2 : 16777215 < w.Address
    · rw [if_pos b2]
    rw [if_neg b2]
    by_cases b3 : w.Instance < 1
    · rw [if_pos b3]
    rw [if_neg b3]
    by_cases b4 : 4611686018427387904 < w.Instance
    · rw [if_pos b4]
    omega
/-- What is known of a call. -/
def look (X : Clis) (w : WhoC) (s : Int) : Option Entry := (mget X w).bind fun kn => mget kn.calls s
def waterP (X : Clis) (w : WhoC) : Int := match mget X w with | some kn => kn.water | none => 0
theorem water_eq (k : Nat) : ca_Water k (mk g X) w = some (waterP X w) := by
  unfold ca_Water waterP
  simp only [mk]
  rcases Option.eq_none_or_eq_some (mget X w) with hk | ⟨kn, hk⟩ <;> simp [hk]
def doneP (g : CacheConfig) (X : Clis) (w : WhoC) (s : Int) (r : List UInt8) : Int × Clis :=
  match mget X w with
  | some kn =>
    match mget kn.calls s with
    | some e => if e.done = true then (151, X) else if g.Reserve < (r.length : Int) then (152, X) else (0, mput X w ⟨kn.water, mput kn.calls s ⟨true, r⟩⟩)
    | none => (151, X)
  | none => (151, X)
theorem bK_fin {m : Calls'} {e : Entry} {r : List UInt8} (hn : mget m s = some e) (hd : ¬ e.done = true) (hm : (m.map (·.1)).Nodup) : bK g.Reserve (mput m s ⟨true, r⟩) = bK g.Reserve m - g.Reserve + r.length := by
  unfold bK
  rw [sum_mput_some hn hm]
  simp [szE, hd]
theorem done_eq (hG : GOk g) (h : XInv g X) (k : Nat) {r : List UInt8} : ca_Done k (mk g X) w s r = some ((doneP g X w s r).1, mk g (doneP g X w s r).2) := by
  unfold ca_Done doneP
  have hB := h.bb hG
  have r1 := hG.r1; have r2 := hG.r2
  simp only [mk]
  rcases Option.eq_none_or_eq_some (mget X w) with hk | ⟨kn, hk⟩
  · simp [hk]
  · simp only [hk, Option.isSome_some, if_true, Option.bind_some, mput_id hk h.nd, cu_hit]
    rcases Option.eq_none_or_eq_some (mget kn.calls s) with hc | ⟨e, hc⟩
    · simp [hc]
    · simp only [hc, Option.isSome_some, if_true, Option.bind_some]
      by_cases hd : e.done = true
      · simp [hd]
      · simp only [if_neg hd, Option.bind_some, if_true]
        by_cases hr : g.Reserve < (r.length : Int)
        · simp only [if_pos hr]
        · have ee := eSum_put h hk ⟨kn.water, mput kn.calls s ⟨true, r⟩⟩
          have bb := bSum_put h hk ⟨kn.water, mput kn.calls s ⟨true, r⟩⟩
          simp only [bK_fin hc hd (h.get hk).2.nd, len_mput_some hc (h.get hk).2.nd] at ee bb
          have hw1 : w64 ((r.length : Int) - g.Reserve) = (r.length : Int) - g.Reserve := w64_of (by omega) (by omega)
          have hw2 : w64 (bSum g.Reserve X + ((r.length : Int) - g.Reserve)) = bSum g.Reserve X + ((r.length : Int) - g.Reserve) := w64_of (by omega) (by omega)
          simp only [if_neg hr, hw1, hw2, ee, bb, Option.some.injEq, Prod.mk.injEq, true_and, Cache.mk.injEq]
          omega
theorem done_inv (hG : GOk g) (h : XInv g X) {r : List UInt8} : XInv g (doneP g X w s r).2 := by
  unfold doneP
  cases hk : mget X w with
  | none => exact h
  | some kn =>
    simp only
    cases hc : mget kn.calls s with
    | none => exact h
    | some e =>
      simp only
      split
      · exact h
      · split
        · exact h
        · rename_i hd hr
          have bb := bSum_put h hk ⟨kn.water, mput kn.calls s ⟨true, r⟩⟩
          simp only [bK_fin hc hd (h.get hk).2.nd] at bb
          have := h.max
          exact h.put hG hk ((h.get hk).2.fin hc (by omega)) (by rw [bb]; omega)
end Go.Proofs.Ytpdpfiaediadgaa
